/-
  Contracts: Path, the reference's Walk.
-/
import Derived.Test.YtoanhpaipfgnfaaVC
import Derived.Test.YtoanhpaipfgnfaaVB
set_option linter.unusedVariables false
set_option linter.unusedSimpArgs false
namespace Go.Ds
open Go.Proofs Go.Plain
variable {H : Heap}

theorem path_ok (N : Nat) (v : Value) (es : List (Nat × Nat)) (hv : Eg H v es) (hN : N ≤ 200) (he : es.length ≤ 1000) (hval : ∀ e ∈ es, e.1 < N ∧ e.2 < N) (s t : Nat) (hs : s < N) (ht : t < N) :
    Fn Try.prog 14 [.agg #[I N, v], I s, I t] H fun r H' => ∃ (d : List Int) (w : Value), IsD (tE es) N t d ∧ (∀ k, k < N → d.getD k 0 ≤ N) ∧ r = .tuple #[w, .bool (decide (0 ≤ d.getD s 0)), I 0] ∧
      St Try.prog H H' [⟨w, 1, nts (if 0 ≤ d.getD s 0 then pF es 0 d (d.getD s 0).toNat s else [])⟩] := by
  refine Fn.of_wp (fn := Try.f14) rfl rfl (by kernel_rfl) fun l hl => ?_
  have hn : l.length = 27 := by rw [hl]; rfl
  have g0 : get l 0 = .agg #[I N, v] := by rw [hl]; rfl
  have g1 : get l 1 = I s := by rw [hl]; rfl
  have g2 : get l 2 = I t := by rw [hl]; rfl
  clear hl
  repeat first | (with_reducible first | refine Wp.seq ?_ | refine Wp.reg ?_ | refine Wp.block ?_ | refine Wp.skip ?_ | refine Wp.ret ?_ | refine Wp.exit ?_ | refine Wp.label ?_ | refine Wp.condG ?_) | simp (disch := omega) only [↓RP, RQ, TS, TR, ↓reduceIte, Nat.reduceEqDiff, Nat.reduceLT, Nat.reduceLeDiff, Int.reduceLT, Int.reduceLE, Int.reduceEq, Int.reduceAdd, Int.reduceSub, Int.reduceNeg, Int.reduceToNat, Nat.reduceAdd, Nat.reduceMul, Nat.reduceSub, reduceCtorEq, RC, hn, g0, g1, g2]
  refine (St.refl _ H).eNew 2 [I N, v] rfl rfl (by simp [hv.one]; rfl) tS27 fun A H1 hS => ?_
  repeat first | (with_reducible first | refine Wp.seq ?_ | refine Wp.reg ?_ | refine Wp.block ?_ | refine Wp.skip ?_ | refine Wp.ret ?_ | refine Wp.exit ?_ | refine Wp.label ?_ | refine Wp.condG ?_) | simp (disch := omega) only [↓RP, RQ, TS, TR, ↓reduceIte, Nat.reduceEqDiff, Nat.reduceLT, Nat.reduceLeDiff, Int.reduceLT, Int.reduceLE, Int.reduceEq, Int.reduceAdd, Int.reduceSub, Int.reduceNeg, Int.reduceToNat, Nat.reduceAdd, Nat.reduceMul, Nat.reduceSub, reduceCtorEq, RC, hn, g0, g1, g2, hS.ldA 0 rfl]
  refine hS.eSlice [I s, I t] tP29 tF29 rfl rfl (by simp [Value.cells]) rfl rfl (by decide) (by decide) fun x H2 hS => ?_
  repeat first | (with_reducible first | refine Wp.seq ?_ | refine Wp.reg ?_ | refine Wp.block ?_ | refine Wp.skip ?_ | refine Wp.ret ?_ | refine Wp.exit ?_ | refine Wp.label ?_ | refine Wp.condG ?_) | simp (disch := omega) only [↓RP, RQ, TS, TR, ↓reduceIte, Nat.reduceEqDiff, Nat.reduceLT, Nat.reduceLeDiff, Int.reduceLT, Int.reduceLE, Int.reduceEq, Int.reduceAdd, Int.reduceSub, Int.reduceNeg, Int.reduceToNat, Nat.reduceAdd, Nat.reduceMul, Nat.reduceSub, reduceCtorEq, RC, hn, g0, g1, g2]
  refine callFW_of (with_ok N v es (hS.base hv) hN he hval x [s, t] (hS.rd 1 rfl) (by simp) (by simp [hs, ht])) ?_
  rintro r H3 ⟨rfl, hS3⟩
  have hS := hS.trans hS3
  repeat first | (with_reducible first | refine Wp.seq ?_ | refine Wp.reg ?_ | refine Wp.block ?_ | refine Wp.skip ?_ | refine Wp.ret ?_ | refine Wp.exit ?_ | refine Wp.label ?_ | refine Wp.condG ?_) | simp (disch := omega) only [↓RP, RQ, TS, TR, ↓reduceIte, Nat.reduceEqDiff, Nat.reduceLT, Nat.reduceLeDiff, Int.reduceLT, Int.reduceLE, Int.reduceEq, Int.reduceAdd, Int.reduceSub, Int.reduceNeg, Int.reduceToNat, Nat.reduceAdd, Nat.reduceMul, Nat.reduceSub, reduceCtorEq, RC, hn, g0, g1, g2, hS.ldA 0 rfl]
  refine callFW_of (walk_ok N v es (hS.base hv) hN he hval s t 0 hs ht (Nat.zero_le _)) ?_
  rintro r H4 ⟨d, w, hd, hdN, rfl, hS4⟩
  have hS := hS.trans hS4
  have hw := hS.rd 2 rfl
  repeat first | (with_reducible first | refine Wp.seq ?_ | refine Wp.reg ?_ | refine Wp.block ?_ | refine Wp.skip ?_ | refine Wp.ret ?_ | refine Wp.exit ?_ | refine Wp.label ?_ | refine Wp.condG ?_) | simp (disch := omega) only [↓RP, RQ, TS, TR, ↓reduceIte, Nat.reduceEqDiff, Nat.reduceLT, Nat.reduceLeDiff, Int.reduceLT, Int.reduceLE, Int.reduceEq, Int.reduceAdd, Int.reduceSub, Int.reduceNeg, Int.reduceToNat, Nat.reduceAdd, Nat.reduceMul, Nat.reduceSub, reduceCtorEq, RC, hn, g0, g1, g2, hw.noTuple]
  exact ⟨d, w, hd, hdN, rfl, hS.sub (by simp)⟩

theorem pF_length (es : List (Nat × Nat)) (first : Nat) (d : List Int) : ∀ m a, (pF es first d m a).length = m
  | 0, _ => rfl
  | m + 1, a => by rw [pF, List.length_cons, pF_length es first d m]

theorem refWalk_ok (N : Nat) (ev st : Value) (es : List (Nat × Nat)) (ws : Nat → Value) (rows : Nat → List Nat) (d : List Int) (s t : Nat) (hE : Eg H ev es) (hst : Sl1 H st ws (List.range N)) (hrow : ∀ i, i < N → Sl1 H (ws i) (fun n : Nat => I n) (rows i))
    (hrows : ∀ i, i < N → IsS es N i (rows i)) (hd : IsD (tE es) N t d) (hval : ∀ e ∈ es, e.1 < N ∧ e.2 < N) (hs : s < N) (ht : t < N) (he : es.length ≤ 1000) (hN : N ≤ 200) (hpos : 0 < d.getD s 0) (hdN : d.getD s 0 ≤ 1000) :
    Fn Try.prog 18 [ev, st, I s, I t] H fun r H' => St Try.prog H H' [⟨r, 1, nts (pF es 0 d (d.getD s 0).toNat s)⟩] := by
  have hsd := steps_eq hd hrows ht hs (fun e => by subst e; rw [hd.self hs] at hpos; omega)
  have hsd2 : ((rows s).getD t 0 : Int) = d.getD s 0 := by
    split at hsd <;> omega
  have hrl : (List.range N).length = N := List.length_range
  have hrlen := fun i hi => (hrows i hi).len
  have hrls := hrlen s hs
  have hrow0 := hrow s hs
  refine Fn.of_wp (fn := Try.f18) rfl rfl (by kernel_rfl) fun l hl => ?_
  have hn : l.length = 89 := by rw [hl]; rfl
  have g0 : get l 0 = ev := by rw [hl]; rfl
  have g1 : get l 1 = st := by rw [hl]; rfl
  have g2 : get l 2 = I s := by rw [hl]; rfl
  have g3 : get l 3 = I t := by rw [hl]; rfl
  clear hl
  repeat first | (with_reducible first | refine Wp.seq ?_ | refine Wp.reg ?_ | refine Wp.block ?_ | refine Wp.skip ?_ | refine Wp.ret ?_ | refine Wp.exit ?_ | refine Wp.label ?_ | refine Wp.condG ?_) | simp (disch := omega) only [↓RP, RQ, TS, TR, ↓reduceIte, Nat.reduceEqDiff, Nat.reduceLT, Nat.reduceLeDiff, Int.reduceLT, Int.reduceLE, Int.reduceEq, Int.reduceAdd, Int.reduceSub, Int.reduceNeg, Int.reduceToNat, Nat.reduceAdd, Nat.reduceMul, Nat.reduceSub, reduceCtorEq, RC, hn, g0, g1, g2, g3, hst.idx, hst.ld 0, getD_range, hrow0.idx, hrow0.ld 0, hsd2]
  refine Wp.loopN (fun m l H' => l.length = 89 ∧ get l 0 = ev ∧ get l 1 = st ∧ get l 3 = I t ∧ ∃ (a : Nat) (o : Value) (p : List Nat), get l 9 = o ∧ get l 10 = I a ∧ get l 11 = I m ∧ a < N ∧ d.getD a 0 = (m : Int) ∧
    p ++ pF es 0 d m a = pF es 0 d (d.getD s 0).toNat s ∧ p.length + m = (d.getD s 0).toNat ∧ St Try.prog H H' [⟨o, 1, nts p⟩]) (d.getD s 0).toNat ?_ ?_
  · repeat first | (with_reducible first | refine Wp.seq ?_ | refine Wp.reg ?_ | refine Wp.block ?_ | refine Wp.skip ?_ | refine Wp.ret ?_ | refine Wp.exit ?_ | refine Wp.label ?_ | refine Wp.condG ?_) | simp (disch := omega) only [↓RP, RQ, TS, TR, ↓reduceIte, Nat.reduceEqDiff, Nat.reduceLT, Nat.reduceLeDiff, Int.reduceLT, Int.reduceLE, Int.reduceEq, Int.reduceAdd, Int.reduceSub, Int.reduceNeg, Int.reduceToNat, Nat.reduceAdd, Nat.reduceMul, Nat.reduceSub, reduceCtorEq, RC, hn, g0, g1, g2, g3]
    refine ⟨s, _, [], rfl, rfl, ?_, hs, by omega, rfl, by simp, (St.refl _ H).nil 0⟩
    rw [Int.toNat_of_nonneg (by omega)]
  clear hn g0 g1 g2 g3
  rintro m l H' ⟨hn, g0, g1, g3, a, o, p, g9, g10, g11, haN, hda, hp, hpl, hS⟩
  repeat first | (with_reducible first | refine Wp.seq ?_ | refine Wp.reg ?_ | refine Wp.block ?_ | refine Wp.skip ?_ | refine Wp.ret ?_ | refine Wp.exit ?_ | refine Wp.label ?_ | refine Wp.condG ?_) | simp (disch := omega) only [↓RP, RQ, TS, TR, ↓reduceIte, Nat.reduceEqDiff, Nat.reduceLT, Nat.reduceLeDiff, Int.reduceLT, Int.reduceLE, Int.reduceEq, Int.reduceAdd, Int.reduceSub, Int.reduceNeg, Int.reduceToNat, Nat.reduceAdd, Nat.reduceMul, Nat.reduceSub, reduceCtorEq, RC, hn, g0, g1, g3, g9, g10, g11]
  refine condW_split (fun h => ?_) (fun h => ?_)
  · obtain ⟨m', rfl⟩ : ∃ m', m = m' + 1 := ⟨m - 1, by omega⟩
    have hE1 : Sl2 H' ev _ _ es := hS.base hE
    have hst1 : Sl1 H' st ws (List.range N) := hS.base hst
    obtain ⟨k1, k2, k3, k4⟩ := pk_spec es 0 d m' a (nearer hval (by simpa using hd) a m' haN hda)
    repeat first | (with_reducible first | refine Wp.seq ?_ | refine Wp.reg ?_ | refine Wp.block ?_ | refine Wp.skip ?_ | refine Wp.ret ?_ | refine Wp.exit ?_ | refine Wp.label ?_ | refine Wp.condG ?_) | simp (disch := omega) only [↓RP, RQ, TS, TR, ↓reduceIte, Nat.reduceEqDiff, Nat.reduceLT, Nat.reduceLeDiff, Int.reduceLT, Int.reduceLE, Int.reduceEq, Int.reduceAdd, Int.reduceSub, Int.reduceNeg, Int.reduceToNat, Nat.reduceAdd, Nat.reduceMul, Nat.reduceSub, reduceCtorEq, RC, hn, g0, g1, g3, g9, g10, g11]
    refine Wp.mono (Q := fun e l2 H2 => e = .exit 2 ∧ H2 = H' ∧ l2.length = 89 ∧ get l2 0 = ev ∧ get l2 1 = st ∧ get l2 3 = I t ∧ get l2 9 = o ∧ get l2 10 = I a ∧ get l2 11 = I (m' + 1 : Nat) ∧ get l2 12 = I (pk es 0 d m' a)) ?_ ?_
    · refine Wp.loopN (fun n l H2 => H2 = H' ∧ l.length = 89 ∧ get l 0 = ev ∧ get l 1 = st ∧ get l 3 = I t ∧ get l 9 = o ∧ get l 10 = I a ∧ get l 11 = I (m' + 1 : Nat) ∧ ∃ (k : Nat) (x : Int), n + k = es.length ∧ get l 13 = I k ∧ get l 12 = I x ∧
      ((x = -1 ∧ k ≤ pk es 0 d m' a) ∨ x = pk es 0 d m' a)) es.length ?_ ?_
      · repeat first | (with_reducible first | refine Wp.seq ?_ | refine Wp.reg ?_ | refine Wp.block ?_ | refine Wp.skip ?_ | refine Wp.ret ?_ | refine Wp.exit ?_ | refine Wp.label ?_ | refine Wp.condG ?_) | simp (disch := omega) only [↓RP, RQ, TS, TR, ↓reduceIte, Nat.reduceEqDiff, Nat.reduceLT, Nat.reduceLeDiff, Int.reduceLT, Int.reduceLE, Int.reduceEq, Int.reduceAdd, Int.reduceSub, Int.reduceNeg, Int.reduceToNat, Nat.reduceAdd, Nat.reduceMul, Nat.reduceSub, reduceCtorEq, RC, hn, g0, g1, g3, g9, g10, g11]
        exact ⟨0, -1, rfl, rfl, rfl, .inl ⟨rfl, Nat.zero_le _⟩⟩
      clear hn g0 g1 g3 g9 g10 g11
      rintro n l H2 ⟨rfl, hn, g0, g1, g3, g9, g10, g11, k, x, hk, g13, g12, hx⟩
      repeat first | (with_reducible first | refine Wp.seq ?_ | refine Wp.reg ?_ | refine Wp.block ?_ | refine Wp.skip ?_ | refine Wp.ret ?_ | refine Wp.exit ?_ | refine Wp.label ?_ | refine Wp.condG ?_) | simp (disch := omega) only [↓RP, RQ, TS, TR, ↓reduceIte, Nat.reduceEqDiff, Nat.reduceLT, Nat.reduceLeDiff, Int.reduceLT, Int.reduceLE, Int.reduceEq, Int.reduceAdd, Int.reduceSub, Int.reduceNeg, Int.reduceToNat, Nat.reduceAdd, Nat.reduceMul, Nat.reduceSub, reduceCtorEq, RC, hn, g0, g1, g3, g9, g10, g11, g12, g13, hE1.len]
      refine letG_split (fun h1 => ?_) (fun h1 => ?_)
      · repeat first | (with_reducible first | refine Wp.seq ?_ | refine Wp.reg ?_ | refine Wp.block ?_ | refine Wp.skip ?_ | refine Wp.ret ?_ | refine Wp.exit ?_ | refine Wp.label ?_ | refine Wp.condG ?_) | simp (disch := omega) only [↓RP, RQ, TS, TR, ↓reduceIte, Nat.reduceEqDiff, Nat.reduceLT, Nat.reduceLeDiff, Int.reduceLT, Int.reduceLE, Int.reduceEq, Int.reduceAdd, Int.reduceSub, Int.reduceNeg, Int.reduceToNat, Nat.reduceAdd, Nat.reduceMul, Nat.reduceSub, reduceCtorEq, RC, hn, g0, g1, g3, g9, g10, g11, g12, g13, h1]
        refine condW_split (fun h2 => ?_) (fun h2 => ?_)
        · have hkp : k ≤ pk es 0 d m' a := by
            rcases hx with hx | hx
            · exact hx.2
            · omega
          have hx1 : x = -1 := by
            rcases hx with hx | hx
            · exact hx.1
            · omega
          have hkl : k < es.length := by omega
          have hm := hval _ (getD_mem (0, 0) hkl)
          have hme := getD_mem (0, 0) hkl
          have hr1 := (hrow _ hm.2)
          have hr2 : Sl1 H2 (ws (es.getD k (0, 0)).2) (fun n : Nat => I n) (rows (es.getD k (0, 0)).2) := hS.base hr1
          have hr3 := hrlen _ hm.2
          have hno : ¬ mt d m' a (es.getD k (0, 0)) = true → k ≠ pk es 0 d m' a := fun h e => h (by rw [e]; exact k3)
          have hyes : mt d m' a (es.getD k (0, 0)) = true → k = pk es 0 d m' a := fun h => by
            rcases Nat.lt_or_ge k (pk es 0 d m' a) with h5 | h5
            · rw [k4 k (Nat.zero_le _) h5] at h; cases h
            · omega
          repeat first | (with_reducible first | refine Wp.seq ?_ | refine Wp.reg ?_ | refine Wp.block ?_ | refine Wp.skip ?_ | refine Wp.ret ?_ | refine Wp.exit ?_ | refine Wp.label ?_ | refine Wp.condG ?_) | simp (disch := omega) only [↓RP, RQ, TS, TR, ↓reduceIte, Nat.reduceEqDiff, Nat.reduceLT, Nat.reduceLeDiff, Int.reduceLT, Int.reduceLE, Int.reduceEq, Int.reduceAdd, Int.reduceSub, Int.reduceNeg, Int.reduceToNat, Nat.reduceAdd, Nat.reduceMul, Nat.reduceSub, reduceCtorEq, RC, hn, g0, g1, g3, g9, g10, g11, g12, g13, hE1.idx, hE1.fld, hE1.ld0 (0, 0), hE1.ld1 (0, 0), hst1.idx, hst1.ld 0, getD_range, hr2.idx, hr2.ld 0]
          refine letG_split (fun h3 => ?_) (fun h3 => ?_)
          · have href := ref_mt hd hrows hval ht hme (m := m') (by rw [show (es.getD k (0, 0)).1 = a from by omega]; exact hda)
            repeat first | (with_reducible first | refine Wp.seq ?_ | refine Wp.reg ?_ | refine Wp.block ?_ | refine Wp.skip ?_ | refine Wp.ret ?_ | refine Wp.exit ?_ | refine Wp.label ?_ | refine Wp.condG ?_) | simp (disch := omega) only [↓RP, RQ, TS, TR, ↓reduceIte, Nat.reduceEqDiff, Nat.reduceLT, Nat.reduceLeDiff, Int.reduceLT, Int.reduceLE, Int.reduceEq, Int.reduceAdd, Int.reduceSub, Int.reduceNeg, Int.reduceToNat, Nat.reduceAdd, Nat.reduceMul, Nat.reduceSub, reduceCtorEq, RC, hn, g0, g1, g3, g9, g10, g11, g12, g13, h3, hE1.idx, hE1.fld, hE1.ld0 (0, 0), hE1.ld1 (0, 0)]
            refine letG_split (fun h4 => ?_) (fun h4 => ?_)
            · repeat first | (with_reducible first | refine Wp.seq ?_ | refine Wp.reg ?_ | refine Wp.block ?_ | refine Wp.skip ?_ | refine Wp.ret ?_ | refine Wp.exit ?_ | refine Wp.label ?_ | refine Wp.condG ?_) | simp (disch := omega) only [↓RP, RQ, TS, TR, ↓reduceIte, Nat.reduceEqDiff, Nat.reduceLT, Nat.reduceLeDiff, Int.reduceLT, Int.reduceLE, Int.reduceEq, Int.reduceAdd, Int.reduceSub, Int.reduceNeg, Int.reduceToNat, Nat.reduceAdd, Nat.reduceMul, Nat.reduceSub, reduceCtorEq, RC, hn, g0, g1, g3, g9, g10, g11, g12, g13, h3, h4, hE1.idx, hE1.fld, hE1.ld0 (0, 0), hE1.ld1 (0, 0)]
              refine letG_split' (fun h5 => ?_) (fun h5 => ?_)
              · have hy := hyes ((mt_iff ..).2 ⟨by omega, href.2 (.inl ⟨by omega, by omega⟩)⟩)
                repeat first | (with_reducible first | refine Wp.seq ?_ | refine Wp.reg ?_ | refine Wp.block ?_ | refine Wp.skip ?_ | refine Wp.ret ?_ | refine Wp.exit ?_ | refine Wp.label ?_ | refine Wp.condG ?_) | simp (disch := omega) only [↓RP, RQ, TS, TR, ↓reduceIte, Nat.reduceEqDiff, Nat.reduceLT, Nat.reduceLeDiff, Int.reduceLT, Int.reduceLE, Int.reduceEq, Int.reduceAdd, Int.reduceSub, Int.reduceNeg, Int.reduceToNat, Nat.reduceAdd, Nat.reduceMul, Nat.reduceSub, reduceCtorEq, RC, hn, g0, g1, g3, g9, g10, g11, g12, g13, h3, h4, h5, wrap_fit]
                exact ⟨n - 1, by omega, k + 1, k, by omega, rfl, rfl, .inr (by omega)⟩
              · have hy := hno (fun hh => by
                  rcases href.1 ((mt_iff ..).1 hh).2 with h6 | h6
                  · omega
                  · omega)
                repeat first | (with_reducible first | refine Wp.seq ?_ | refine Wp.reg ?_ | refine Wp.block ?_ | refine Wp.skip ?_ | refine Wp.ret ?_ | refine Wp.exit ?_ | refine Wp.label ?_ | refine Wp.condG ?_) | simp (disch := omega) only [↓RP, RQ, TS, TR, ↓reduceIte, Nat.reduceEqDiff, Nat.reduceLT, Nat.reduceLeDiff, Int.reduceLT, Int.reduceLE, Int.reduceEq, Int.reduceAdd, Int.reduceSub, Int.reduceNeg, Int.reduceToNat, Nat.reduceAdd, Nat.reduceMul, Nat.reduceSub, reduceCtorEq, RC, hn, g0, g1, g3, g9, g10, g11, g12, g13, h3, h4, h5, wrap_fit]
                exact ⟨n - 1, by omega, k + 1, x, by omega, rfl, rfl, .inl ⟨hx1, by omega⟩⟩
            · have h6 : (1 : Int) < ((m' + 1 : Nat) : Int) := by omega
              repeat first | (with_reducible first | refine Wp.seq ?_ | refine Wp.reg ?_ | refine Wp.block ?_ | refine Wp.skip ?_ | refine Wp.ret ?_ | refine Wp.exit ?_ | refine Wp.label ?_ | refine Wp.condG ?_) | simp (disch := omega) only [↓RP, RQ, TS, TR, ↓reduceIte, Nat.reduceEqDiff, Nat.reduceLT, Nat.reduceLeDiff, Int.reduceLT, Int.reduceLE, Int.reduceEq, Int.reduceAdd, Int.reduceSub, Int.reduceNeg, Int.reduceToNat, Nat.reduceAdd, Nat.reduceMul, Nat.reduceSub, reduceCtorEq, RC, hn, g0, g1, g3, g9, g10, g11, g12, g13, h3, h4, h6, wrap_fit]
              refine condW_split (fun h5 => ?_) (fun h5 => ?_)
              · have hy := hyes ((mt_iff ..).2 ⟨by omega, href.2 (.inr ⟨by omega, by omega⟩)⟩)
                repeat first | (with_reducible first | refine Wp.seq ?_ | refine Wp.reg ?_ | refine Wp.block ?_ | refine Wp.skip ?_ | refine Wp.ret ?_ | refine Wp.exit ?_ | refine Wp.label ?_ | refine Wp.condG ?_) | simp (disch := omega) only [↓RP, RQ, TS, TR, ↓reduceIte, Nat.reduceEqDiff, Nat.reduceLT, Nat.reduceLeDiff, Int.reduceLT, Int.reduceLE, Int.reduceEq, Int.reduceAdd, Int.reduceSub, Int.reduceNeg, Int.reduceToNat, Nat.reduceAdd, Nat.reduceMul, Nat.reduceSub, reduceCtorEq, RC, hn, g0, g1, g3, g9, g10, g11, g12, g13, wrap_fit]
                exact ⟨n - 1, by omega, k + 1, k, by omega, rfl, rfl, .inr (by omega)⟩
              · have hy := hno (fun hh => by
                  rcases href.1 ((mt_iff ..).1 hh).2 with h7 | h7
                  · omega
                  · omega)
                repeat first | (with_reducible first | refine Wp.seq ?_ | refine Wp.reg ?_ | refine Wp.block ?_ | refine Wp.skip ?_ | refine Wp.ret ?_ | refine Wp.exit ?_ | refine Wp.label ?_ | refine Wp.condG ?_) | simp (disch := omega) only [↓RP, RQ, TS, TR, ↓reduceIte, Nat.reduceEqDiff, Nat.reduceLT, Nat.reduceLeDiff, Int.reduceLT, Int.reduceLE, Int.reduceEq, Int.reduceAdd, Int.reduceSub, Int.reduceNeg, Int.reduceToNat, Nat.reduceAdd, Nat.reduceMul, Nat.reduceSub, reduceCtorEq, RC, hn, g0, g1, g3, g9, g10, g11, g12, g13, wrap_fit]
                exact ⟨n - 1, by omega, k + 1, x, by omega, rfl, rfl, .inl ⟨hx1, by omega⟩⟩
          · have hy := hno (fun hh => h3 (by rw [((mt_iff ..).1 hh).1]))
            repeat first | (with_reducible first | refine Wp.seq ?_ | refine Wp.reg ?_ | refine Wp.block ?_ | refine Wp.skip ?_ | refine Wp.ret ?_ | refine Wp.exit ?_ | refine Wp.label ?_ | refine Wp.condG ?_) | simp (disch := omega) only [↓RP, RQ, TS, TR, ↓reduceIte, Nat.reduceEqDiff, Nat.reduceLT, Nat.reduceLeDiff, Int.reduceLT, Int.reduceLE, Int.reduceEq, Int.reduceAdd, Int.reduceSub, Int.reduceNeg, Int.reduceToNat, Nat.reduceAdd, Nat.reduceMul, Nat.reduceSub, reduceCtorEq, RC, hn, g0, g1, g3, g9, g10, g11, g12, g13, h3, wrap_fit]
            exact ⟨n - 1, by omega, k + 1, x, by omega, rfl, rfl, .inl ⟨hx1, by omega⟩⟩
        · repeat first | (with_reducible first | refine Wp.seq ?_ | refine Wp.reg ?_ | refine Wp.block ?_ | refine Wp.skip ?_ | refine Wp.ret ?_ | refine Wp.exit ?_ | refine Wp.label ?_ | refine Wp.condG ?_) | simp (disch := omega) only [↓RP, RQ, TS, TR, ↓reduceIte, Nat.reduceEqDiff, Nat.reduceLT, Nat.reduceLeDiff, Int.reduceLT, Int.reduceLE, Int.reduceEq, Int.reduceAdd, Int.reduceSub, Int.reduceNeg, Int.reduceToNat, Nat.reduceAdd, Nat.reduceMul, Nat.reduceSub, reduceCtorEq, RC, hn, g0, g1, g3, g9, g10, g11, g12, g13]
          rcases hx with hx | hx
          · omega
          · rw [hx]
      · repeat first | (with_reducible first | refine Wp.seq ?_ | refine Wp.reg ?_ | refine Wp.block ?_ | refine Wp.skip ?_ | refine Wp.ret ?_ | refine Wp.exit ?_ | refine Wp.label ?_ | refine Wp.condG ?_) | simp (disch := omega) only [↓RP, RQ, TS, TR, ↓reduceIte, Nat.reduceEqDiff, Nat.reduceLT, Nat.reduceLeDiff, Int.reduceLT, Int.reduceLE, Int.reduceEq, Int.reduceAdd, Int.reduceSub, Int.reduceNeg, Int.reduceToNat, Nat.reduceAdd, Nat.reduceMul, Nat.reduceSub, reduceCtorEq, RC, hn, g0, g1, g3, g9, g10, g11, g12, g13, h1]
        rcases hx with hx | hx
        · omega
        · rw [hx]
    · clear hn g0 g1 g3 g9 g10 g11
      rintro e l H2 ⟨rfl, rfl, hn, g0, g1, g3, g9, g10, g11, g12⟩
      have hmt := (mt_iff ..).1 k3
      have hk2 := (hval _ (getD_mem (0, 0) k2)).2
      repeat first | (with_reducible first | refine Wp.seq ?_ | refine Wp.reg ?_ | refine Wp.block ?_ | refine Wp.skip ?_ | refine Wp.ret ?_ | refine Wp.exit ?_ | refine Wp.label ?_ | refine Wp.condG ?_) | simp (disch := omega) only [↓RP, RQ, TS, TR, ↓reduceIte, Nat.reduceEqDiff, Nat.reduceLT, Nat.reduceLeDiff, Int.reduceLT, Int.reduceLE, Int.reduceEq, Int.reduceAdd, Int.reduceSub, Int.reduceNeg, Int.reduceToNat, Nat.reduceAdd, Nat.reduceMul, Nat.reduceSub, reduceCtorEq, RC, hn, g0, g1, g3, g9, g10, g11, g12]
      refine hS.eSlice [I (pk es 0 d m' a)] tP29 tF29 rfl rfl (by simp [Value.cells]) rfl rfl (by decide) (by decide) fun x H5 hS => ?_
      repeat first | (with_reducible first | refine Wp.seq ?_ | refine Wp.reg ?_ | refine Wp.block ?_ | refine Wp.skip ?_ | refine Wp.ret ?_ | refine Wp.exit ?_ | refine Wp.label ?_ | refine Wp.condG ?_) | simp (disch := omega) only [↓RP, RQ, TS, TR, ↓reduceIte, Nat.reduceEqDiff, Nat.reduceLT, Nat.reduceLeDiff, Int.reduceLT, Int.reduceLE, Int.reduceEq, Int.reduceAdd, Int.reduceSub, Int.reduceNeg, Int.reduceToNat, Nat.reduceAdd, Nat.reduceMul, Nat.reduceSub, reduceCtorEq, RC, hn, g0, g1, g3, g9, g10, g11, g12]
      refine hS.eAppend 0 rfl (hS.rd 1 rfl) tP29 (by simp only [nts, List.length_map, List.length_cons, List.length_nil]; omega) fun o' H6 hS => ?_
      simp only [List.nil_append, List.cons_append, List.append_nil, List.set_cons_zero, List.set_cons_succ, setMany_cons, setMany_nil, Nat.zero_add, Nat.mul_one, Nat.add_zero] at hS
      have hE1 : Sl2 H6 ev _ _ es := hS.base hE
      repeat first | (with_reducible first | refine Wp.seq ?_ | refine Wp.reg ?_ | refine Wp.block ?_ | refine Wp.skip ?_ | refine Wp.ret ?_ | refine Wp.exit ?_ | refine Wp.label ?_ | refine Wp.condG ?_) | simp (disch := omega) only [↓RP, RQ, TS, TR, ↓reduceIte, Nat.reduceEqDiff, Nat.reduceLT, Nat.reduceLeDiff, Int.reduceLT, Int.reduceLE, Int.reduceEq, Int.reduceAdd, Int.reduceSub, Int.reduceNeg, Int.reduceToNat, Nat.reduceAdd, Nat.reduceMul, Nat.reduceSub, reduceCtorEq, RC, hn, g0, g1, g3, g9, g10, g11, g12, hE1.idx, hE1.fld, hE1.ld1 (0, 0), wrap_fit]
      refine ⟨m', by omega, _, o', p ++ [pk es 0 d m' a], rfl, rfl, ?_, hk2, hmt.2, ?_, ?_, hS.sub ?_⟩
      · exact congrArg (Value.int .i64) (by omega)
      · rw [← hp, List.append_assoc]
        rfl
      · rw [List.length_append]
        simp only [List.length_cons, List.length_nil]
        omega
      · simp [nts]
  · repeat first | (with_reducible first | refine Wp.seq ?_ | refine Wp.reg ?_ | refine Wp.block ?_ | refine Wp.skip ?_ | refine Wp.ret ?_ | refine Wp.exit ?_ | refine Wp.label ?_ | refine Wp.condG ?_) | simp (disch := omega) only [↓RP, RQ, TS, TR, ↓reduceIte, Nat.reduceEqDiff, Nat.reduceLT, Nat.reduceLeDiff, Int.reduceLT, Int.reduceLE, Int.reduceEq, Int.reduceAdd, Int.reduceSub, Int.reduceNeg, Int.reduceToNat, Nat.reduceAdd, Nat.reduceMul, Nat.reduceSub, reduceCtorEq, RC, hn, g0, g1, g3, g9, g10, g11]
    have hm : m = 0 := by omega
    subst hm
    rw [← hp]
    simp only [pF, List.append_nil]
    exact hS
end Go.Ds
/-
  Plain: what the law on Reach and Distance compares.
-/
namespace Go.Plain

theorem IsD.eq {es : List (Nat × Nat)} {N s : Nat} {d d' : List Int} (h : IsD es N s d) (h' : IsD es N s d') : d = d' := by
  apply List.ext_getElem (by rw [h.len, h'.len])
  intro k hk hk'
  have hkN : k < N := by rw [← h.len]; exact hk
  have e1 : d[k] = d.getD k 0 := by simp [List.getD_eq_getElem?_getD, hk]
  have e2 : d'[k] = d'.getD k 0 := by simp [List.getD_eq_getElem?_getD, hk']
  rw [e1, e2]
  by_cases h1 : d.getD k 0 < 0
  · have a1 := h.neg k hkN h1
    by_cases h2 : d'.getD k 0 < 0
    · rw [a1.1, (h'.neg k hkN h2).1]
    · exact (a1.2 _ (h'.pos k hkN (by omega)).1).elim
  · have a1 := h.pos k hkN (by omega)
    by_cases h2 : d'.getD k 0 < 0
    · exact ((h'.neg k hkN h2).2 _ a1.1).elim
    · have a2 := h'.pos k hkN (by omega)
      have b1 := a1.2 _ a2.1
      have b2 := a2.2 _ a1.1
      omega

theorem want_eq {es : List (Nat × Nat)} {N s : Nat} {d : List Int} {row : List Nat} (h : IsD es N s d) (hr : IsS es N s row) (i : Nat) (hi : i < N) :
    d.getD i 0 = if i = s then 0 else if row.getD i 0 = 0 then -1 else (row.getD i 0 : Int) := by
  split
  · rename_i e
    by_cases h1 : d.getD i 0 < 0
    · exact ((h.neg i hi h1).2 0 e.symm).elim
    · have := (h.pos i hi (by omega)).2 0 e.symm
      omega
  · rename_i e
    split
    · rename_i h0
      by_cases h1 : d.getD i 0 < 0
      · exact (h.neg i hi h1).1
      · have a := (h.pos i hi (by omega)).1
        cases hm : (d.getD i 0).toNat with
        | zero => rw [hm] at a; exact (e a.symm).elim
        | succ m => rw [hm] at a; exact (hr.zero i hi h0 m a).elim
    · rename_i h0
      have a := hr.pos i hi (by omega)
      by_cases h1 : d.getD i 0 < 0
      · exact ((h.neg i hi h1).2 _ a.1).elim
      · have b := h.pos i hi (by omega)
        have c := b.2 _ a.1
        cases hm : (d.getD i 0).toNat with
        | zero => rw [hm] at b; exact (e b.1.symm).elim
        | succ m =>
          rw [hm] at b
          have := a.2 m b.1
          omega

/-- The chosen numbers below a bound. -/
theorem filter_at (p : Nat → Bool) (N i : Nat) (hi : i < N) (hp : p i = true) : ((List.range i).filter p).length < ((List.range N).filter p).length ∧ ((List.range N).filter p).getD ((List.range i).filter p).length 0 = i := by
  have e : List.range N = List.range i ++ i :: (List.range' (i + 1) (N - (i + 1))) := by
    have : i :: (List.range' (i + 1) (N - (i + 1))) = List.range' i (N - i) := by
      rw [← List.range'_succ]
      congr 1
      omega
    have h2 := List.range'_append_1 (s := 0) (m := i) (n := N - i)
    rw [Nat.zero_add, show i + (N - i) = N from by omega] at h2
    rw [this, List.range_eq_range', List.range_eq_range', h2]
  rw [e, List.filter_append, List.filter_cons, hp]
  simp [List.getD_eq_getElem?_getD]
end Go.Plain
/-
  Plain graphs: the smallest cycle, as the program and as the reference find it.
-/
namespace Go.Plain

noncomputable def dist (es : List (Nat × Nat)) (N t : Nat) : List Int := by
  classical
  exact if h : ∃ d, IsD es N t d then Classical.choose h else []

theorem dist_eq {es : List (Nat × Nat)} {N t : Nat} {d : List Int} (h : IsD es N t d) : dist es N t = d := by
  unfold dist
  have hx : ∃ d, IsD es N t d := ⟨d, h⟩
  rw [dif_pos hx]
  exact (Classical.choose_spec hx).eq h

/-- The way back from the end of the edge i to its beginning, by edges from an index on: its table of distances. -/
noncomputable def dI (es : List (Nat × Nat)) (N first i : Nat) : List Int := dist (tE (es.drop first)) N (es.getD i (0, 0)).1
noncomputable def dT (es : List (Nat × Nat)) (N first i : Nat) : Int := (dI es N first i).getD (es.getD i (0, 0)).2 0

/-- The cycle that begins with the edge i and goes on by edges from an index on. -/
noncomputable def cyc (es : List (Nat × Nat)) (N first i : Nat) : List Nat := i :: pF es first (dI es N first i) (dT es N first i).toNat (es.getD i (0, 0)).2

/-- Indices of edges that lead from a to b. -/
def Ch (es : List (Nat × Nat)) : List Nat → Nat → Nat → Prop
  | [], a, b => a = b
  | i :: l, a, b => i < es.length ∧ (es.getD i (0, 0)).1 = a ∧ Ch es l (es.getD i (0, 0)).2 b

theorem Ch.append {es : List (Nat × Nat)} : ∀ {l m : List Nat} {a b c : Nat}, Ch es l a b → Ch es m b c → Ch es (l ++ m) a c
  | [], m, a, b, c, h, k => by have : a = b := h; subst this; exact k
  | i :: l, m, a, b, c, h, k => ⟨h.1, h.2.1, h.2.2.append k⟩

theorem Ch.split {es : List (Nat × Nat)} : ∀ {l m : List Nat} {a c : Nat}, Ch es (l ++ m) a c → ∃ b, Ch es l a b ∧ Ch es m b c
  | [], m, a, c, h => ⟨a, rfl, h⟩
  | i :: l, m, a, c, h => by
    obtain ⟨b, h1, h2⟩ := Ch.split h.2.2
    exact ⟨b, ⟨h.1, h.2.1, h1⟩, h2⟩

theorem getD_mem' {α : Type} {xs : List α} {i : Nat} (d : α) (h : i < xs.length) : xs.getD i d ∈ xs := by
  rw [List.getD_eq_getElem?_getD, List.getElem?_eq_getElem h]
  exact List.getElem_mem h

theorem Ch.walk {es : List (Nat × Nat)} {first : Nat} : ∀ {l : List Nat} {a b : Nat}, Ch es l a b → (∀ i ∈ l, first ≤ i) → W (es.drop first) l.length a b
  | [], _, _, h, _ => h
  | i :: l, a, b, h, hf => by
    rw [List.length_cons, W_cons]
    refine ⟨(es.getD i (0, 0)).2, ?_, Ch.walk h.2.2 fun j hj => hf j (List.mem_cons_of_mem _ hj)⟩
    have h1 := hf i (List.mem_cons_self ..)
    have h2 : es.getD i (0, 0) ∈ es.drop first := by
      rw [show i = first + (i - first) from by omega, ← getD_drop]
      exact getD_mem' _ (by simp; have := h.1; omega)
    rw [← h.2.1]
    exact h2

section
variable {es : List (Nat × Nat)} {N : Nat}

/-- All tables of distances that are asked for are there. -/
def HasD (es : List (Nat × Nat)) (N : Nat) : Prop := (∀ e ∈ es, e.1 < N ∧ e.2 < N) ∧ ∀ first t, first ≤ es.length → t < N → ∃ d, IsD (tE (es.drop first)) N t d

theorem HasD.at (T : HasD es N) {first i : Nat} (hf : first ≤ es.length) (hi : i < es.length) : IsD (tE (es.drop first)) N (es.getD i (0, 0)).1 (dI es N first i) := by
  obtain ⟨d, hd⟩ := T.2 first (es.getD i (0, 0)).1 hf (T.1 _ (getD_mem' _ hi)).1
  unfold dI
  rw [dist_eq hd]
  exact hd

theorem pF_ch (hv : ∀ e ∈ es, e.1 < N ∧ e.2 < N) {first t : Nat} {d : List Int} (hd : IsD (tE (es.drop first)) N t d) : ∀ (m a : Nat), a < N → d.getD a 0 = (m : Int) → Ch es (pF es first d m a) a t ∧ (∀ i ∈ pF es first d m a, first ≤ i) ∧ (pF es first d m a).length = m
  | 0, a, ha, hm => by
    refine ⟨?_, by simp [pF], rfl⟩
    have := (hd.pos a ha (by omega)).1
    rw [hm] at this
    exact Eq.symm this
  | m + 1, a, ha, hm => by
    obtain ⟨k1, k2, k3, _⟩ := pk_spec es first d m a (nearer hv hd a m ha hm)
    have hmt := (mt_iff ..).1 k3
    obtain ⟨h1, h2, h3⟩ := pF_ch hv hd m _ (hv _ (getD_mem' (0, 0) k2)).2 hmt.2
    refine ⟨⟨k2, hmt.1, h1⟩, ?_, by rw [pF, List.length_cons, h3]⟩
    intro i hi
    rcases List.mem_cons.1 hi with rfl | hi
    · exact k1
    · exact h2 i hi

/-- The cycle leads around. -/
theorem cyc_ch (T : HasD es N) {first i : Nat} (hf : first ≤ es.length) (hi : i < es.length) (h : 0 ≤ dT es N first i) :
    Ch es (cyc es N first i) (es.getD i (0, 0)).1 (es.getD i (0, 0)).1 ∧ (∀ j ∈ cyc es N first i, j = i ∨ first ≤ j) ∧ ((cyc es N first i).length : Int) = dT es N first i + 1 := by
  have h1 := (T.1 _ (getD_mem' (0, 0) hi)).2
  obtain ⟨a, b, c⟩ := pF_ch T.1 (T.at hf hi) (dT es N first i).toNat _ h1 (by unfold dT at h ⊢; omega)
  refine ⟨⟨hi, rfl, a⟩, ?_, ?_⟩
  · intro j hj
    rcases List.mem_cons.1 hj with hj | hj
    · exact .inl hj
    · exact .inr (b j hj)
  · unfold cyc
    rw [List.length_cons, c]
    omega

/-- A cycle of any indices gives one, no longer, that begins with its least. -/
theorem least_cycle (T : HasD es N) {l : List Nat} {a j : Nat} (hc : Ch es l a a) (hj : j ∈ l) (hl : ∀ i ∈ l, j ≤ i) : j < es.length ∧ 0 ≤ dT es N j j ∧ dT es N j j + 1 ≤ l.length := by
  obtain ⟨A, B, rfl⟩ := List.append_of_mem hj
  obtain ⟨b, h1, h2⟩ := hc.split
  have hje : j < es.length := h2.1
  have hjb : (es.getD j (0, 0)).1 = b := h2.2.1
  have h3 : Ch es (B ++ A) (es.getD j (0, 0)).2 (es.getD j (0, 0)).1 := by
    rw [hjb]; exact h2.2.2.append h1
  have h4 := h3.walk (first := j) fun i hi => hl i (by
    rcases List.mem_append.1 hi with hi | hi
    · exact List.mem_append_right _ (List.mem_cons_of_mem _ hi)
    · exact List.mem_append_left _ hi)
  have hd := T.at (first := j) (by omega) hje
  have hN := (T.1 _ (getD_mem' (0, 0) hje)).2
  have hnn : 0 ≤ dT es N j j := by
    unfold dT
    by_cases h0 : (dI es N j j).getD (es.getD j (0, 0)).2 0 < 0
    · exact ((hd.neg _ hN h0).2 _ (W_rev.2 h4)).elim
    · omega
  refine ⟨hje, hnn, ?_⟩
  have h5 := (hd.pos _ hN hnn).2 _ (W_rev.2 h4)
  have h6 : dT es N j j = (dI es N j j).getD (es.getD j (0, 0)).2 0 := rfl
  simp only [List.length_append, List.length_cons] at h5 ⊢
  omega

/-- Every list that is not empty has a least entry. -/
theorem least_of : ∀ (l : List Nat), l ≠ [] → ∃ j ∈ l, ∀ i ∈ l, j ≤ i
  | [], h => (h rfl).elim
  | [x], _ => ⟨x, by simp, by simp⟩
  | x :: y :: l, _ => by
    obtain ⟨j, hj, hl⟩ := least_of (y :: l) (by simp)
    by_cases h : x ≤ j
    · refine ⟨x, by simp, ?_⟩
      intro i hi
      rcases List.mem_cons.1 hi with rfl | hi
      · exact Nat.le_refl _
      · exact Nat.le_trans h (hl i hi)
    · refine ⟨j, List.mem_cons_of_mem _ hj, ?_⟩
      intro i hi
      rcases List.mem_cons.1 hi with rfl | hi
      · omega
      · exact hl i hi

/-- Ways that use no edge below an index are the same with and without those edges. -/
theorem pF_same (T : HasD es N) {first t : Nat} {d d' : List Int} (hd : IsD (tE (es.drop 0)) N t d) (hd' : IsD (tE (es.drop first)) N t d') : ∀ (m a : Nat), a < N → d.getD a 0 = (m : Int) → (∀ i ∈ pF es 0 d m a, first ≤ i) → d'.getD a 0 = (m : Int) ∧ pF es first d' m a = pF es 0 d m a
  | 0, a, ha, hm, _ => by
    have h1 := (hd.pos a ha (by omega)).1
    rw [hm] at h1
    have : t = a := h1
    subst this
    refine ⟨?_, rfl⟩
    by_cases h0 : d'.getD t 0 < 0
    · exact ((hd'.neg t ha h0).2 0 rfl).elim
    · have := (hd'.pos t ha (by omega)).2 0 rfl
      omega
  | m + 1, a, ha, hm, hf => by
    obtain ⟨k1, k2, k3, k4⟩ := pk_spec es 0 d m a (nearer T.1 hd a m ha hm)
    have hmt := (mt_iff ..).1 k3
    have hkN := (T.1 _ (getD_mem' (0, 0) k2)).2
    have hfk : first ≤ pk es 0 d m a := hf _ (List.mem_cons_self ..)
    obtain ⟨i1, i2⟩ := pF_same T hd hd' m _ hkN hmt.2 fun i hi => hf i (List.mem_cons_of_mem _ hi)
    have hda : d'.getD a 0 = ((m + 1 : Nat) : Int) := by
      have hch := (pF_ch T.1 hd (m + 1) a ha hm)
      have hw := hch.1.walk hf
      rw [hch.2.2] at hw
      by_cases h0 : d'.getD a 0 < 0
      · exact ((hd'.neg a ha h0).2 _ (W_rev.2 hw)).elim
      · have h1 := (hd'.pos a ha (by omega))
        have h2 := h1.2 _ (W_rev.2 hw)
        have h3 : W (tE (es.drop 0)) (d'.getD a 0).toNat t a := by
          have mono : ∀ n a b, W (es.drop first) n a b → W es n a b := by
            intro n
            induction n with
            | zero => intro a b h; exact h
            | succ n ih => rintro a b ⟨c, hc, he⟩; exact ⟨c, ih _ _ hc, List.mem_of_mem_drop he⟩
          rw [List.drop_zero]
          exact W_rev.2 (mono _ _ _ (W_rev.1 h1.1))
        have h4 := (hd.pos a ha (by omega)).2 _ h3
        omega
    refine ⟨hda, ?_⟩
    have hpk : pk es first d' m a = pk es 0 d m a := by
      refine pk_eq es first d' m a _ hfk k2 ((mt_iff ..).2 ⟨hmt.1, i1⟩) ?_
      intro i hi1 hi2
      rw [← Bool.not_eq_true, mt_iff]
      rintro ⟨e1, e2⟩
      have hil : i < es.length := by omega
      have hiN := (T.1 _ (getD_mem' (0, 0) hil)).2
      have h5 := k4 i (Nat.zero_le _) hi2
      rw [← Bool.not_eq_true, mt_iff] at h5
      apply h5
      refine ⟨e1, ?_⟩
      have hwd := (hd'.pos _ hiN (by omega)).1
      rw [e2] at hwd
      have mono : ∀ n a b, W (es.drop first) n a b → W es n a b := by
        intro n
        induction n with
        | zero => intro a b h; exact h
        | succ n ih => rintro a b ⟨c, hc, he⟩; exact ⟨c, ih _ _ hc, List.mem_of_mem_drop he⟩
      have hw : W (tE (es.drop 0)) m t (es.getD i (0, 0)).2 := by
        rw [List.drop_zero]
        exact W_rev.2 (mono _ _ _ (W_rev.1 hwd))
      by_cases h0 : d.getD (es.getD i (0, 0)).2 0 < 0
      · exact ((hd.neg _ hiN h0).2 _ hw).elim
      · have h6 := hd.pos _ hiN (by omega)
        have h7 := h6.2 _ hw
        have h8 := (hd.pos a ha (by omega)).2 ((d.getD (es.getD i (0, 0)).2 0).toNat + 1) ⟨_, h6.1, mem_tE.2 (by rw [List.drop_zero, ← e1]; exact getD_mem' (0, 0) hil)⟩
        omega
    rw [pF, pF, hpk, i2]
end
end Go.Plain
/-
  Plain graphs: the two smallest cycles are the same.
-/
namespace Go.Plain

/-- The first of the smallest so far. -/
def Mst (ok : Nat → Prop) (v : Nat → Int) (f : Nat → List Nat) (n : Nat) (c : List Nat) : Prop :=
  (c = [] ∧ ∀ i, i < n → ¬ ok i) ∨ ∃ k, k < n ∧ ok k ∧ c = f k ∧ (∀ i, i < n → ok i → v k ≤ v i) ∧ ∀ i, i < k → ok i → v k < v i

section
variable {ok : Nat → Prop} {v : Nat → Int} {f : Nat → List Nat} {n : Nat} {c : List Nat}
theorem Mst.first : Mst ok v f 0 [] := .inl ⟨rfl, fun i hi => absurd hi (Nat.not_lt_zero _)⟩
theorem Mst.none (h : Mst ok v f n c) (hn : ¬ ok n) : Mst ok v f (n + 1) c := by
  rcases h with ⟨h1, h2⟩ | ⟨k, h1, h2, h3, h4, h5⟩
  · refine .inl ⟨h1, fun i hi => ?_⟩
    by_cases e : i = n
    · subst e; exact hn
    · exact h2 i (by omega)
  · refine .inr ⟨k, by omega, h2, h3, fun i hi hok => ?_, h5⟩
    by_cases e : i = n
    · subst e; exact (hn hok).elim
    · exact h4 i (by omega) hok
theorem Mst.keep (h : Mst ok v f n c) (hl : ∀ i, i < n → ok i → ((f i).length : Int) = v i + 1) (hc : c ≠ []) (hv : (c.length : Int) ≤ v n + 1) : Mst ok v f (n + 1) c := by
  rcases h with ⟨h1, h2⟩ | ⟨k, h1, h2, h3, h4, h5⟩
  · exact (hc h1).elim
  · refine .inr ⟨k, by omega, h2, h3, fun i hi hok => ?_, h5⟩
    by_cases e : i = n
    · subst e
      have := hl k h1 h2
      rw [h3] at hv
      omega
    · exact h4 i (by omega) hok
theorem Mst.new (h : Mst ok v f n c) (hf : ∀ i, f i ≠ []) (hl : ∀ i, i < n → ok i → ((f i).length : Int) = v i + 1) (hn : ok n) (hv : c = [] ∨ v n + 1 < c.length) : Mst ok v f (n + 1) (f n) := by
  rcases h with ⟨h1, h2⟩ | ⟨k, h1, h2, h3, h4, h5⟩
  · refine .inr ⟨n, by omega, hn, rfl, fun i hi hok => ?_, fun i hi hok => (h2 i hi hok).elim⟩
    by_cases e : i = n
    · subst e; exact Int.le_refl _
    · exact (h2 i (by omega) hok).elim
  · have h6 := hl k h1 h2
    have h7 : v n < v k := by
      rcases hv with hv | hv
      · rw [h3] at hv
        exact (hf k hv).elim
      · rw [h3] at hv; omega
    refine .inr ⟨n, by omega, hn, rfl, fun i hi hok => ?_, fun i hi hok => ?_⟩
    · by_cases e : i = n
      · subst e; exact Int.le_refl _
      · have := h4 i (by omega) hok; omega
    · have := h4 i hi hok; omega
end

section
variable {es : List (Nat × Nat)} {N : Nat}
def goOk (es : List (Nat × Nat)) (N : Nat) (i : Nat) : Prop := 0 ≤ dT es N i i
def cand (es : List (Nat × Nat)) (N : Nat) (k : Nat) : Prop := 0 ≤ dT es N 0 k ∧ ∀ i ∈ cyc es N 0 k, k ≤ i

theorem W_drop {first : Nat} : ∀ {n a b : Nat}, W (es.drop first) n a b → W es n a b
  | 0, _, _, h => h
  | _ + 1, _, _, ⟨c, hc, he⟩ => ⟨c, W_drop hc, List.mem_of_mem_drop he⟩

theorem full_le (T : HasD es N) {k : Nat} (hk : k < es.length) (h : goOk es N k) : 0 ≤ dT es N 0 k ∧ dT es N 0 k ≤ dT es N k k := by
  have hd := T.at (first := 0) (Nat.zero_le _) hk
  have hd' := T.at (first := k) (by omega) hk
  have hN := (T.1 _ (getD_mem' (0, 0) hk)).2
  have h1 := (hd'.pos _ hN h).1
  have h2 : W (tE (es.drop 0)) (dT es N k k).toNat (es.getD k (0, 0)).1 (es.getD k (0, 0)).2 := by
    rw [List.drop_zero]
    exact W_rev.2 (W_drop (W_rev.1 h1))
  have h0 : 0 ≤ dT es N 0 k := by
    by_cases h3 : (dI es N 0 k).getD (es.getD k (0, 0)).2 0 < 0
    · exact ((hd.neg _ hN h3).2 _ h2).elim
    · unfold dT; omega
  refine ⟨h0, ?_⟩
  have h3 := (hd.pos _ hN h0).2 _ h2
  have h4 : dT es N 0 k = (dI es N 0 k).getD (es.getD k (0, 0)).2 0 := rfl
  have h5 : 0 ≤ dT es N k k := h
  omega

theorem cycles_same (T : HasD es N) {c b : List Nat} (hc : Mst (goOk es N) (fun i => dT es N i i) (fun i => cyc es N i i) es.length c) (hb : Mst (cand es N) (fun i => dT es N 0 i) (fun i => cyc es N 0 i) es.length b) : c = b := by
  -- a cycle of the reference gives one of the program
  have F1 : ∀ k, k < es.length → 0 ≤ dT es N 0 k → ∃ j, j ≤ k ∧ (∀ i ∈ cyc es N 0 k, j ≤ i) ∧ goOk es N j ∧ dT es N j j ≤ dT es N 0 k ∧ j ∈ cyc es N 0 k := by
    intro k hk h0
    obtain ⟨a1, a2, a3⟩ := cyc_ch T (first := 0) (Nat.zero_le _) hk h0
    obtain ⟨j, hj, hl⟩ := least_of (cyc es N 0 k) (by simp [cyc])
    obtain ⟨b1, b2, b3⟩ := least_cycle T a1 hj hl
    exact ⟨j, hl k (by simp [cyc]), hl, b2, by omega, hj⟩
  rcases hc with ⟨h1, h2⟩ | ⟨k0, h1, h2, h3, h4, h5⟩
  · rcases hb with ⟨g1, _⟩ | ⟨k, g1, g2, _⟩
    · rw [h1, g1]
    · obtain ⟨j, hj, _, hok, _⟩ := F1 k g1 g2.1
      exact (h2 j (by omega) hok).elim
  · simp only at h4 h5
    have hf := full_le T h1 h2
    have hm : dT es N 0 k0 = dT es N k0 k0 := by
      obtain ⟨j, hj, _, hok, hle, _⟩ := F1 k0 h1 hf.1
      have := h4 j (by omega) hok
      omega
    have hcand : cand es N k0 := by
      refine ⟨hf.1, ?_⟩
      obtain ⟨j, hj, hl, hok, hle, _⟩ := F1 k0 h1 hf.1
      by_cases e : j = k0
      · subst e; exact hl
      · have := h5 j (by omega) hok
        omega
    have hsame : cyc es N k0 k0 = cyc es N 0 k0 := by
      have hd := T.at (first := 0) (Nat.zero_le _) h1
      have hd' := T.at (first := k0) (by omega) h1
      have hN := (T.1 _ (getD_mem' (0, 0) h1)).2
      have := pF_same T hd hd' (dT es N 0 k0).toNat _ hN (by have := hf.1; unfold dT at this ⊢; omega) (fun i hi => hcand.2 i (List.mem_cons_of_mem _ hi))
      unfold cyc
      rw [← hm, this.2]
    rcases hb with ⟨_, g2⟩ | ⟨k1, g1, g2, g3, g4, g5⟩
    · exact (g2 k0 h1 hcand).elim
    · simp only at g4 g5
      have e1 := g4 k0 h1 hcand
      obtain ⟨j, hj, hl, hok, hle, hjm⟩ := F1 k1 g1 g2.1
      have hjk : j = k1 := by
        have := g2.2 j hjm
        omega
      subst hjk
      have e2 := h4 j g1 hok
      rcases Nat.lt_trichotomy j k0 with h | h | h
      · have := h5 j h hok
        omega
      · subst h
        rw [h3, g3]
        exact hsame
      · have := g5 k0 h hcand
        omega
end
end Go.Plain
/-
  Contracts: Cycle, the reference's Less and Cycle.
-/
namespace Go.Ds
open Go.Proofs Go.Plain
variable {H : Heap}

theorem tables (N : Nat) (v : Value) (es : List (Nat × Nat)) (hv : Eg H v es) (hN : N ≤ 200) (he : es.length ≤ 1000) (hval : ∀ e ∈ es, e.1 < N ∧ e.2 < N) : HasD es N := by
  refine ⟨hval, fun first t hf ht => ?_⟩
  obtain ⟨_, r, H1, _, w, rfl, hE, _⟩ := turned_ok N v es hv he
  obtain ⟨_, r2, H2, _, d, hd, _⟩ := distances_ok N w (tE es) hE hN (by rw [tE_length]; exact he) (tE_val hval) t first ht (by rw [tE_length]; exact hf)
  rw [tE_drop] at hd
  exact ⟨d, hd⟩

theorem less_ok (v1 v2 : Value) (xs ys : List Nat) (h1 : Sl1 H v1 (fun n : Nat => I n) xs) (h2 : Sl1 H v2 (fun n : Nat => I n) ys) (hx : 0 < xs.length) (hy : 0 < ys.length) (hne : ys.getD 0 0 < xs.getD 0 0) : Fn Try.prog 39 [v1, v2] H fun r H' => r = .bool false ∧ H' = H := by
  refine Fn.of_wp (fn := Try.f39) rfl rfl (by kernel_rfl) fun l hl => ?_
  have hn : l.length = 41 := by rw [hl]; rfl
  have g0 : get l 0 = v1 := by rw [hl]; rfl
  have g1 : get l 1 = v2 := by rw [hl]; rfl
  clear hl
  repeat first | (with_reducible first | refine Wp.seq ?_ | refine Wp.reg ?_ | refine Wp.block ?_ | refine Wp.skip ?_ | refine Wp.ret ?_ | refine Wp.exit ?_ | refine Wp.label ?_ | refine Wp.condG ?_) | simp (disch := omega) only [↓RP, RQ, TS, TR, ↓reduceIte, Nat.reduceEqDiff, Nat.reduceLT, Nat.reduceLeDiff, Int.reduceLT, Int.reduceLE, Int.reduceEq, Int.reduceAdd, Int.reduceSub, Int.reduceNeg, Int.reduceToNat, Nat.reduceAdd, Nat.reduceMul, Nat.reduceSub, reduceCtorEq, RC, hn, g0, g1]
  refine Wp.loopN (fun n l H' => H' = H ∧ l.length = 41 ∧ get l 0 = v1 ∧ get l 1 = v2 ∧ get l 5 = I 0) 0 ?_ ?_
  · repeat first | (with_reducible first | refine Wp.seq ?_ | refine Wp.reg ?_ | refine Wp.block ?_ | refine Wp.skip ?_ | refine Wp.ret ?_ | refine Wp.exit ?_ | refine Wp.label ?_ | refine Wp.condG ?_) | simp (disch := omega) only [↓RP, RQ, TS, TR, ↓reduceIte, Nat.reduceEqDiff, Nat.reduceLT, Nat.reduceLeDiff, Int.reduceLT, Int.reduceLE, Int.reduceEq, Int.reduceAdd, Int.reduceSub, Int.reduceNeg, Int.reduceToNat, Nat.reduceAdd, Nat.reduceMul, Nat.reduceSub, reduceCtorEq, RC, hn, g0, g1]
  clear hn g0 g1
  rintro n l H' ⟨rfl, hn, g0, g1, g5⟩
  have e1 : (0 : Int) < (xs.length : Int) := by omega
  have e2 : (0 : Int) < (ys.length : Int) := by omega
  have e3 : ¬ (xs.getD 0 0 : Int) = (ys.getD 0 0 : Int) := by omega
  have e4 : decide ((xs.getD 0 0 : Int) < (ys.getD 0 0 : Int)) = false := decide_eq_false (by omega)
  repeat first | (with_reducible first | refine Wp.seq ?_ | refine Wp.reg ?_ | refine Wp.block ?_ | refine Wp.skip ?_ | refine Wp.ret ?_ | refine Wp.exit ?_ | refine Wp.label ?_ | refine Wp.condG ?_) | with_reducible refine Wp.drw hmix (by kernel_rfl) ?_ | simp (disch := omega) only [↓RP, RQ, TS, TR, ↓reduceIte, Nat.reduceEqDiff, Nat.reduceLT, Nat.reduceLeDiff, Int.reduceLT, Int.reduceLE, Int.reduceEq, Int.reduceAdd, Int.reduceSub, Int.reduceNeg, Int.reduceToNat, Nat.reduceAdd, Nat.reduceMul, Nat.reduceSub, reduceCtorEq, RC, hn, g0, g1, g5, h1.len, h2.len, e1, e2, e3, e4, h1.idx, h2.idx, h1.ld 0, h2.ld 0]

theorem cycle_ok (N : Nat) (v : Value) (es : List (Nat × Nat)) (hv : Eg H v es) (hN : N ≤ 200) (he : es.length ≤ 1000) (hval : ∀ e ∈ es, e.1 < N ∧ e.2 < N) :
    Fn Try.prog 19 [.agg #[I N, v]] H fun r H' => ∃ (c : List Nat) (w : Value), Mst (goOk es N) (fun i => dT es N i i) (fun i => cyc es N i i) es.length c ∧ c.length ≤ N + 1 ∧ r = .tuple #[w, .bool (decide (0 < c.length)), I 0] ∧ St Try.prog H H' [⟨w, 1, nts c⟩] := by
  have T := tables N v es hv hN he hval
  have hcl : ∀ i, i < es.length → goOk es N i → ((cyc es N i i).length : Int) = dT es N i i + 1 := fun i hi h => (cyc_ch T (by omega) hi h).2.2
  refine Fn.of_wp (fn := Try.f19) rfl rfl (by kernel_rfl) fun l hl => ?_
  have hn : l.length = 53 := by rw [hl]; rfl
  have g0 : get l 0 = .agg #[I N, v] := by rw [hl]; rfl
  clear hl
  repeat first | (with_reducible first | refine Wp.seq ?_ | refine Wp.reg ?_ | refine Wp.block ?_ | refine Wp.skip ?_ | refine Wp.ret ?_ | refine Wp.exit ?_ | refine Wp.label ?_ | refine Wp.condG ?_) | simp (disch := omega) only [↓RP, RQ, TS, TR, ↓reduceIte, Nat.reduceEqDiff, Nat.reduceLT, Nat.reduceLeDiff, Int.reduceLT, Int.reduceLE, Int.reduceEq, Int.reduceAdd, Int.reduceSub, Int.reduceNeg, Int.reduceToNat, Nat.reduceAdd, Nat.reduceMul, Nat.reduceSub, reduceCtorEq, RC, hn, g0]
  refine (St.refl _ H).eNew 2 [I N, v] rfl rfl (by simp [hv.one]; rfl) tS27 fun A H1 hS => ?_
  repeat first | (with_reducible first | refine Wp.seq ?_ | refine Wp.reg ?_ | refine Wp.block ?_ | refine Wp.skip ?_ | refine Wp.ret ?_ | refine Wp.exit ?_ | refine Wp.label ?_ | refine Wp.condG ?_) | simp (disch := omega) only [↓RP, RQ, TS, TR, ↓reduceIte, Nat.reduceEqDiff, Nat.reduceLT, Nat.reduceLeDiff, Int.reduceLT, Int.reduceLE, Int.reduceEq, Int.reduceAdd, Int.reduceSub, Int.reduceNeg, Int.reduceToNat, Nat.reduceAdd, Nat.reduceMul, Nat.reduceSub, reduceCtorEq, RC, hn, g0, hS.ldA 0 rfl]
  refine callFW_of (check_ok N v es (hS.base hv) hN he hval) ?_
  rintro r H2 ⟨rfl, hS2⟩
  have hS := (hS.trans hS2).nil 0
  simp only [List.nil_append, List.cons_append, List.append_nil, List.set_cons_zero, List.set_cons_succ, setMany_cons, setMany_nil, Nat.zero_add, Nat.mul_one, Nat.add_zero] at hS
  have hv1 : Sl2 H2 v _ _ es := hS.base hv
  repeat first | (with_reducible first | refine Wp.seq ?_ | refine Wp.reg ?_ | refine Wp.block ?_ | refine Wp.skip ?_ | refine Wp.ret ?_ | refine Wp.exit ?_ | refine Wp.label ?_ | refine Wp.condG ?_) | simp (disch := omega) only [↓RP, RQ, TS, TR, ↓reduceIte, Nat.reduceEqDiff, Nat.reduceLT, Nat.reduceLeDiff, Int.reduceLT, Int.reduceLE, Int.reduceEq, Int.reduceAdd, Int.reduceSub, Int.reduceNeg, Int.reduceToNat, Nat.reduceAdd, Nat.reduceMul, Nat.reduceSub, reduceCtorEq, RC, hn, g0, hS.ld 0 rfl, hv1.len]
  refine Wp.loopN (fun n l H' => l.length = 53 ∧ get l 1 = ptr A 0 2 ∧ get l 16 = v ∧ get l 17 = I es.length ∧ ∃ (i : Nat) (c : List Nat) (cv : Value), n + i = es.length ∧ get l 18 = I i ∧ get l 2 = cv ∧ get l 3 = .bool (decide (0 < c.length)) ∧
    Mst (goOk es N) (fun i => dT es N i i) (fun i => cyc es N i i) i c ∧ c.length ≤ N + 1 ∧ St Try.prog H H' [⟨ptr A 0 2, 0, [I N, v]⟩, ⟨cv, 1, nts c⟩]) es.length ?_ ?_
  · repeat first | (with_reducible first | refine Wp.seq ?_ | refine Wp.reg ?_ | refine Wp.block ?_ | refine Wp.skip ?_ | refine Wp.ret ?_ | refine Wp.exit ?_ | refine Wp.label ?_ | refine Wp.condG ?_) | simp (disch := omega) only [↓RP, RQ, TS, TR, ↓reduceIte, Nat.reduceEqDiff, Nat.reduceLT, Nat.reduceLeDiff, Int.reduceLT, Int.reduceLE, Int.reduceEq, Int.reduceAdd, Int.reduceSub, Int.reduceNeg, Int.reduceToNat, Nat.reduceAdd, Nat.reduceMul, Nat.reduceSub, reduceCtorEq, RC, hn, g0]
    exact ⟨0, [], _, rfl, rfl, rfl, rfl, .first, by simp, hS⟩
  clear hS hS2 hn g0 hv1
  rintro n l H' ⟨hn, g1, g16, g17, i, c, cv, hi, g18, g2, g3, hM, hcN, hS⟩
  have hv1 : Sl2 H' v _ _ es := hS.base hv
  repeat first | (with_reducible first | refine Wp.seq ?_ | refine Wp.reg ?_ | refine Wp.block ?_ | refine Wp.skip ?_ | refine Wp.ret ?_ | refine Wp.exit ?_ | refine Wp.label ?_ | refine Wp.condG ?_) | simp (disch := omega) only [↓RP, RQ, TS, TR, ↓reduceIte, Nat.reduceEqDiff, Nat.reduceLT, Nat.reduceLeDiff, Int.reduceLT, Int.reduceLE, Int.reduceEq, Int.reduceAdd, Int.reduceSub, Int.reduceNeg, Int.reduceToNat, Nat.reduceAdd, Nat.reduceMul, Nat.reduceSub, reduceCtorEq, RC, hn, g1, g16, g17, g18]
  refine condW_split (fun h => ?_) (fun h => ?_)
  · have hil : i < es.length := by omega
    have hm := hval _ (getD_mem (0, 0) hil)
    repeat first | (with_reducible first | refine Wp.seq ?_ | refine Wp.reg ?_ | refine Wp.block ?_ | refine Wp.skip ?_ | refine Wp.ret ?_ | refine Wp.exit ?_ | refine Wp.label ?_ | refine Wp.condG ?_) | simp (disch := omega) only [↓RP, RQ, TS, TR, ↓reduceIte, Nat.reduceEqDiff, Nat.reduceLT, Nat.reduceLeDiff, Int.reduceLT, Int.reduceLE, Int.reduceEq, Int.reduceAdd, Int.reduceSub, Int.reduceNeg, Int.reduceToNat, Nat.reduceAdd, Nat.reduceMul, Nat.reduceSub, reduceCtorEq, RC, hn, g1, g2, g3, g16, g17, g18, hv1.idx, hv1.ldA (0, 0)]
    refine hS.eNew 2 [I 0, I 0] rfl rfl rfl tS48 fun C H5 hS => ?_
    repeat first | (with_reducible first | refine Wp.seq ?_ | refine Wp.reg ?_ | refine Wp.block ?_ | refine Wp.skip ?_ | refine Wp.ret ?_ | refine Wp.exit ?_ | refine Wp.label ?_ | refine Wp.condG ?_) | simp (disch := omega) only [↓RP, RQ, TS, TR, ↓reduceIte, Nat.reduceEqDiff, Nat.reduceLT, Nat.reduceLeDiff, Int.reduceLT, Int.reduceLE, Int.reduceEq, Int.reduceAdd, Int.reduceSub, Int.reduceNeg, Int.reduceToNat, Nat.reduceAdd, Nat.reduceMul, Nat.reduceSub, reduceCtorEq, RC, hn, g1, g2, g3, g16, g17, g18]
    refine hS.eStore 2 rfl [_, _] rfl rfl tS48 (by simp) fun H6 hS => ?_
    simp only [List.nil_append, List.cons_append, List.append_nil, List.set_cons_zero, List.set_cons_succ, setMany_cons, setMany_nil, Nat.zero_add, Nat.mul_one, Nat.add_zero] at hS
    repeat first | (with_reducible first | refine Wp.seq ?_ | refine Wp.reg ?_ | refine Wp.block ?_ | refine Wp.skip ?_ | refine Wp.ret ?_ | refine Wp.exit ?_ | refine Wp.label ?_ | refine Wp.condG ?_) | simp (disch := omega) only [↓RP, RQ, TS, TR, ↓reduceIte, Nat.reduceEqDiff, Nat.reduceLT, Nat.reduceLeDiff, Int.reduceLT, Int.reduceLE, Int.reduceEq, Int.reduceAdd, Int.reduceSub, Int.reduceNeg, Int.reduceToNat, Nat.reduceAdd, Nat.reduceMul, Nat.reduceSub, reduceCtorEq, RC, hn, g1, g2, g3, g16, g17, g18, hS.ldA 0 rfl, hS.ld 2 rfl]
    refine callFW_of (walk_ok N v es (hS.base hv) hN he hval (es.getD i (0, 0)).2 (es.getD i (0, 0)).1 i hm.2 hm.1 (by omega)) ?_
    rintro r H7 ⟨d, wl, hd, hdN, rfl, hS7⟩
    have hS := hS.trans hS7
    simp only [List.nil_append, List.cons_append, List.append_nil, List.set_cons_zero, List.set_cons_succ, setMany_cons, setMany_nil, Nat.zero_add, Nat.mul_one, Nat.add_zero] at hS
    have hdI : dI es N i i = d := dist_eq hd
    have hdT : dT es N i i = d.getD (es.getD i (0, 0)).2 0 := by unfold dT; rw [hdI]
    have hdn := hdN _ hm.2
    have hcy : cyc es N i i = i :: pF es i d (d.getD (es.getD i (0, 0)).2 0).toNat (es.getD i (0, 0)).2 := by unfold cyc; rw [hdI, hdT]
    have hwl := hS.rd 3 rfl
    repeat first | (with_reducible first | refine Wp.seq ?_ | refine Wp.reg ?_ | refine Wp.block ?_ | refine Wp.skip ?_ | refine Wp.ret ?_ | refine Wp.exit ?_ | refine Wp.label ?_ | refine Wp.condG ?_) | simp (disch := omega) only [↓RP, RQ, TS, TR, ↓reduceIte, Nat.reduceEqDiff, Nat.reduceLT, Nat.reduceLeDiff, Int.reduceLT, Int.reduceLE, Int.reduceEq, Int.reduceAdd, Int.reduceSub, Int.reduceNeg, Int.reduceToNat, Nat.reduceAdd, Nat.reduceMul, Nat.reduceSub, reduceCtorEq, RC, hn, g1, g2, g3, g16, g17, g18]
    refine letG_split (fun h3 => ?_) (fun h3 => ?_)
    · rw [if_pos h3] at hS hwl
      have hok : goOk es N i := by unfold goOk; rw [hdT]; exact h3
      have hwl1 : Sl1 H7 wl (fun n : Nat => I n) (pF es i d (d.getD (es.getD i (0, 0)).2 0).toNat (es.getD i (0, 0)).2) := hwl
      have hcv1 : Sl1 H7 cv (fun n : Nat => I n) c := hS.rd 1 rfl
      have hpl := pF_length es i d (d.getD (es.getD i (0, 0)).2 0).toNat (es.getD i (0, 0)).2
      generalize hpp : pF es i d (d.getD (es.getD i (0, 0)).2 0).toNat (es.getD i (0, 0)).2 = p at hpl hwl1 hS hcy
      by_cases hc0 : 0 < c.length
      · have e1 : decide (0 < c.length) = true := decide_eq_true hc0
        repeat first | (with_reducible first | refine Wp.seq ?_ | refine Wp.reg ?_ | refine Wp.block ?_ | refine Wp.skip ?_ | refine Wp.ret ?_ | refine Wp.exit ?_ | refine Wp.label ?_ | refine Wp.condG ?_) | simp (disch := omega) only [↓RP, RQ, TS, TR, ↓reduceIte, Nat.reduceEqDiff, Nat.reduceLT, Nat.reduceLeDiff, Int.reduceLT, Int.reduceLE, Int.reduceEq, Int.reduceAdd, Int.reduceSub, Int.reduceNeg, Int.reduceToNat, Nat.reduceAdd, Nat.reduceMul, Nat.reduceSub, reduceCtorEq, RC, hn, g1, g2, g3, g16, g17, g18, h3, e1, hwl1.len, hcv1.len, wrap_fit]
        refine condW_split (fun h4 => ?_) (fun h4 => ?_)
        · repeat first | (with_reducible first | refine Wp.seq ?_ | refine Wp.reg ?_ | refine Wp.block ?_ | refine Wp.skip ?_ | refine Wp.ret ?_ | refine Wp.exit ?_ | refine Wp.label ?_ | refine Wp.condG ?_) | simp (disch := omega) only [↓RP, RQ, TS, TR, ↓reduceIte, Nat.reduceEqDiff, Nat.reduceLT, Nat.reduceLeDiff, Int.reduceLT, Int.reduceLE, Int.reduceEq, Int.reduceAdd, Int.reduceSub, Int.reduceNeg, Int.reduceToNat, Nat.reduceAdd, Nat.reduceMul, Nat.reduceSub, reduceCtorEq, RC, hn, g1, g2, g3, g16, g17, g18]
          refine hS.eSlice [I i] tP29 tF29 rfl rfl (by simp [Value.cells]) rfl rfl (by decide) (by decide) fun x H8 hS => ?_
          repeat first | (with_reducible first | refine Wp.seq ?_ | refine Wp.reg ?_ | refine Wp.block ?_ | refine Wp.skip ?_ | refine Wp.ret ?_ | refine Wp.exit ?_ | refine Wp.label ?_ | refine Wp.condG ?_) | simp (disch := omega) only [↓RP, RQ, TS, TR, ↓reduceIte, Nat.reduceEqDiff, Nat.reduceLT, Nat.reduceLeDiff, Int.reduceLT, Int.reduceLE, Int.reduceEq, Int.reduceAdd, Int.reduceSub, Int.reduceNeg, Int.reduceToNat, Nat.reduceAdd, Nat.reduceMul, Nat.reduceSub, reduceCtorEq, RC, hn, g1, g2, g3, g16, g17, g18]
          refine hS.eAppend 4 rfl (hS.rd 3 rfl) tP29 (by simp only [nts, List.length_map, List.length_cons, List.length_nil]; omega) fun cv' H9 hS => ?_
          simp only [List.nil_append, List.cons_append, List.append_nil, List.set_cons_zero, List.set_cons_succ, setMany_cons, setMany_nil, Nat.zero_add, Nat.mul_one, Nat.add_zero] at hS
          repeat first | (with_reducible first | refine Wp.seq ?_ | refine Wp.reg ?_ | refine Wp.block ?_ | refine Wp.skip ?_ | refine Wp.ret ?_ | refine Wp.exit ?_ | refine Wp.label ?_ | refine Wp.condG ?_) | simp (disch := omega) only [↓RP, RQ, TS, TR, ↓reduceIte, Nat.reduceEqDiff, Nat.reduceLT, Nat.reduceLeDiff, Int.reduceLT, Int.reduceLE, Int.reduceEq, Int.reduceAdd, Int.reduceSub, Int.reduceNeg, Int.reduceToNat, Nat.reduceAdd, Nat.reduceMul, Nat.reduceSub, reduceCtorEq, RC, hn, g1, g2, g3, g16, g17, g18, wrap_fit]
          refine ⟨n - 1, by omega, i + 1, i :: p, cv', by omega, rfl, rfl, by simp, ?_, by rw [List.length_cons]; omega, hS.sub ?_⟩
          · rw [← hcy]
            exact hM.new (fun _ => by simp [cyc]) (fun j hj => hcl j (by omega)) hok (.inr (by rw [hdT]; omega))
          · exact .cons_cons _ (.cons _ (.cons _ (.cons _ (.refl _))))
        · repeat first | (with_reducible first | refine Wp.seq ?_ | refine Wp.reg ?_ | refine Wp.block ?_ | refine Wp.skip ?_ | refine Wp.ret ?_ | refine Wp.exit ?_ | refine Wp.label ?_ | refine Wp.condG ?_) | simp (disch := omega) only [↓RP, RQ, TS, TR, ↓reduceIte, Nat.reduceEqDiff, Nat.reduceLT, Nat.reduceLeDiff, Int.reduceLT, Int.reduceLE, Int.reduceEq, Int.reduceAdd, Int.reduceSub, Int.reduceNeg, Int.reduceToNat, Nat.reduceAdd, Nat.reduceMul, Nat.reduceSub, reduceCtorEq, RC, hn, g1, g2, g3, g16, g17, g18, wrap_fit]
          refine ⟨n - 1, by omega, i + 1, c, cv, by omega, rfl, rfl, by rw [e1], hM.keep (fun j hj => hcl j (by omega)) (fun e => by rw [e] at hc0; simp at hc0) (by rw [hdT]; omega), hcN, hS.sub ?_⟩
          exact .cons_cons _ (.cons_cons _ (.cons _ (.cons _ (.refl _))))
      · have e1 : decide (0 < c.length) = false := decide_eq_false hc0
        repeat first | (with_reducible first | refine Wp.seq ?_ | refine Wp.reg ?_ | refine Wp.block ?_ | refine Wp.skip ?_ | refine Wp.ret ?_ | refine Wp.exit ?_ | refine Wp.label ?_ | refine Wp.condG ?_) | simp (disch := omega) only [↓RP, RQ, TS, TR, ↓reduceIte, Nat.reduceEqDiff, Nat.reduceLT, Nat.reduceLeDiff, Int.reduceLT, Int.reduceLE, Int.reduceEq, Int.reduceAdd, Int.reduceSub, Int.reduceNeg, Int.reduceToNat, Nat.reduceAdd, Nat.reduceMul, Nat.reduceSub, reduceCtorEq, RC, hn, g1, g2, g3, g16, g17, g18, h3, e1, hwl1.len, hcv1.len, wrap_fit]
        refine hS.eSlice [I i] tP29 tF29 rfl rfl (by simp [Value.cells]) rfl rfl (by decide) (by decide) fun x H8 hS => ?_
        repeat first | (with_reducible first | refine Wp.seq ?_ | refine Wp.reg ?_ | refine Wp.block ?_ | refine Wp.skip ?_ | refine Wp.ret ?_ | refine Wp.exit ?_ | refine Wp.label ?_ | refine Wp.condG ?_) | simp (disch := omega) only [↓RP, RQ, TS, TR, ↓reduceIte, Nat.reduceEqDiff, Nat.reduceLT, Nat.reduceLeDiff, Int.reduceLT, Int.reduceLE, Int.reduceEq, Int.reduceAdd, Int.reduceSub, Int.reduceNeg, Int.reduceToNat, Nat.reduceAdd, Nat.reduceMul, Nat.reduceSub, reduceCtorEq, RC, hn, g1, g2, g3, g16, g17, g18]
        refine hS.eAppend 4 rfl (hS.rd 3 rfl) tP29 (by simp only [nts, List.length_map, List.length_cons, List.length_nil]; omega) fun cv' H9 hS => ?_
        simp only [List.nil_append, List.cons_append, List.append_nil, List.set_cons_zero, List.set_cons_succ, setMany_cons, setMany_nil, Nat.zero_add, Nat.mul_one, Nat.add_zero] at hS
        repeat first | (with_reducible first | refine Wp.seq ?_ | refine Wp.reg ?_ | refine Wp.block ?_ | refine Wp.skip ?_ | refine Wp.ret ?_ | refine Wp.exit ?_ | refine Wp.label ?_ | refine Wp.condG ?_) | simp (disch := omega) only [↓RP, RQ, TS, TR, ↓reduceIte, Nat.reduceEqDiff, Nat.reduceLT, Nat.reduceLeDiff, Int.reduceLT, Int.reduceLE, Int.reduceEq, Int.reduceAdd, Int.reduceSub, Int.reduceNeg, Int.reduceToNat, Nat.reduceAdd, Nat.reduceMul, Nat.reduceSub, reduceCtorEq, RC, hn, g1, g2, g3, g16, g17, g18, wrap_fit]
        refine ⟨n - 1, by omega, i + 1, i :: p, cv', by omega, rfl, rfl, by simp, ?_, by rw [List.length_cons]; omega, hS.sub ?_⟩
        · rw [← hcy]
          exact hM.new (fun _ => by simp [cyc]) (fun j hj => hcl j (by omega)) hok (.inl (List.eq_nil_of_length_eq_zero (by omega)))
        · exact .cons_cons _ (.cons _ (.cons _ (.cons _ (.refl _))))
    · have hno : ¬ goOk es N i := by unfold goOk; rw [hdT]; exact h3
      repeat first | (with_reducible first | refine Wp.seq ?_ | refine Wp.reg ?_ | refine Wp.block ?_ | refine Wp.skip ?_ | refine Wp.ret ?_ | refine Wp.exit ?_ | refine Wp.label ?_ | refine Wp.condG ?_) | simp (disch := omega) only [↓RP, RQ, TS, TR, ↓reduceIte, Nat.reduceEqDiff, Nat.reduceLT, Nat.reduceLeDiff, Int.reduceLT, Int.reduceLE, Int.reduceEq, Int.reduceAdd, Int.reduceSub, Int.reduceNeg, Int.reduceToNat, Nat.reduceAdd, Nat.reduceMul, Nat.reduceSub, reduceCtorEq, RC, hn, g1, g2, g3, g16, g17, g18, h3, wrap_fit]
      refine ⟨n - 1, by omega, i + 1, c, cv, by omega, rfl, rfl, rfl, hM.none hno, hcN, hS.sub ?_⟩
      exact .cons_cons _ (.cons_cons _ (.cons _ (.cons _ (.refl _))))
  · have hw := hS.rd 1 rfl
    repeat first | (with_reducible first | refine Wp.seq ?_ | refine Wp.reg ?_ | refine Wp.block ?_ | refine Wp.skip ?_ | refine Wp.ret ?_ | refine Wp.exit ?_ | refine Wp.label ?_ | refine Wp.condG ?_) | simp (disch := omega) only [↓RP, RQ, TS, TR, ↓reduceIte, Nat.reduceEqDiff, Nat.reduceLT, Nat.reduceLeDiff, Int.reduceLT, Int.reduceLE, Int.reduceEq, Int.reduceAdd, Int.reduceSub, Int.reduceNeg, Int.reduceToNat, Nat.reduceAdd, Nat.reduceMul, Nat.reduceSub, reduceCtorEq, RC, hn, g1, g2, g3, g16, g17, g18, hw.noTuple]
    have e : i = es.length := by omega
    subst e
    exact ⟨c, cv, hM, hcN, rfl, hS.sub (by simp)⟩
end Go.Ds
/-
  Plain graphs: the least topological order.
-/
namespace Go.Plain

/-- A node that may come next. -/
def rdy (es : List (Nat × Nat)) (out : List Nat) (i : Nat) : Prop := i ∉ out ∧ ∀ e ∈ es, e.2 = i → e.1 ∈ out

/-- A part of a topological order, each the least that may come next. -/
inductive Top (es : List (Nat × Nat)) (N : Nat) : List Nat → Prop where
  | nil : Top es N []
  | step {out : List Nat} {i : Nat} (h : Top es N out) (hi : i < N) (hr : rdy es out i) (hl : ∀ j, j < i → ¬ rdy es out j) : Top es N (out ++ [i])

theorem rdy_eq {es : List (Nat × Nat)} {out : List Nat} {i j : Nat} (h1 : rdy es out i) (h2 : ∀ k, k < i → ¬ rdy es out k) (h3 : rdy es out j) (h4 : ∀ k, k < j → ¬ rdy es out k) : i = j := by
  rcases Nat.lt_trichotomy i j with h | h | h
  · exact (h4 i h h1).elim
  · exact h
  · exact (h2 j h h3).elim

theorem Top.nodup {es : List (Nat × Nat)} {N : Nat} {out : List Nat} (h : Top es N out) : out.Nodup := by
  induction h with
  | nil => exact .nil
  | step h hi hr hl ih =>
    rw [List.nodup_append]
    refine ⟨ih, List.nodup_cons.2 ⟨by simp, .nil⟩, ?_⟩
    intro a ha b hb e
    rw [List.mem_singleton.1 hb] at e
    rw [e] at ha
    exact hr.1 ha

theorem Top.lt {es : List (Nat × Nat)} {N : Nat} {out : List Nat} (h : Top es N out) : ∀ i ∈ out, i < N := by
  induction h with
  | nil => intro i hi; cases hi
  | step h hi hr hl ih =>
    intro j hj
    rcases List.mem_append.1 hj with hj | hj
    · exact ih j hj
    · rw [List.mem_singleton.1 hj]; exact hi

theorem nodup_le : ∀ (N : Nat) (l : List Nat), l.Nodup → (∀ i ∈ l, i < N) → l.length ≤ N
  | 0, l, _, h => by
    cases l with
    | nil => simp
    | cons a l => exact absurd (h a (List.mem_cons_self ..)) (Nat.not_lt_zero _)
  | N + 1, l, hn, h => by
    have h1 := nodup_le N (l.erase N) (hn.erase N) (fun i hi => by
      have h2 := (List.Nodup.mem_erase_iff hn).1 hi
      have := h i h2.2
      have := h2.1
      omega)
    have h2 := List.length_erase (a := N) (l := l)
    split at h2 <;> omega

theorem nodup_all {N : Nat} {l : List Nat} (hn : l.Nodup) (h : ∀ i ∈ l, i < N) (hl : l.length = N) : ∀ i, i < N → i ∈ l := by
  intro i hi
  by_cases hm : i ∈ l
  · exact hm
  · have h1 : (i :: l).Nodup := List.nodup_cons.2 ⟨hm, hn⟩
    have := nodup_le N (i :: l) h1 (by
      intro j hj
      rcases List.mem_cons.1 hj with rfl | hj
      · exact hi
      · exact h j hj)
    rw [List.length_cons] at this
    omega

/-- What has come has all that leads to it behind it. -/
theorem Top.pred {es : List (Nat × Nat)} {N : Nat} {out : List Nat} (h : Top es N out) : ∀ e ∈ es, e.2 ∈ out → e.1 ∈ out := by
  induction h with
  | nil => intro e _ h; cases h
  | step h hi hr hl ih =>
    intro e he hm
    rcases List.mem_append.1 hm with hm | hm
    · exact List.mem_append_left _ (ih e he hm)
    · exact List.mem_append_left _ (hr.2 e he (List.mem_singleton.1 hm))

/-- No way leads around among what has come. -/
theorem Top.around {es : List (Nat × Nat)} {N : Nat} {out : List Nat} (h : Top es N out) : ∀ (n a : Nat), a ∈ out → ¬ W es (n + 1) a a := by
  have back : ∀ {out : List Nat}, Top es N out → ∀ n a b, W es n a b → b ∈ out → a ∈ out := by
    intro out h n
    induction n with
    | zero => intro a b hw hb; have : a = b := hw; rw [this]; exact hb
    | succ n ih =>
      rintro a b ⟨c, hc, he⟩ hb
      exact ih a c hc (h.pred _ he hb)
  induction h with
  | nil => intro n a ha; cases ha
  | step h hi hr hl ih =>
    rename_i out i
    intro n a ha hw
    rcases List.mem_append.1 ha with ha | ha
    · exact ih n a ha hw
    · have hai : a = i := List.mem_singleton.1 ha
      subst hai
      obtain ⟨c, hc, he⟩ := hw
      have hco : c ∈ out := hr.2 _ he rfl
      exact hr.1 (back h n a c hc hco)

theorem nodup_sub : ∀ (l m : List Nat), l.Nodup → (∀ i ∈ l, i ∈ m) → l.length ≤ m.length
  | [], m, _, _ => Nat.zero_le _
  | x :: l, m, hn, h => by
    have hn := List.nodup_cons.1 hn
    have hx := h x (List.mem_cons_self ..)
    have h1 := nodup_sub l (m.erase x) hn.2 (fun i hi => by
      have hne : i ≠ x := fun e => hn.1 (by rw [← e]; exact hi)
      exact (List.mem_erase_of_ne hne).2 (h i (List.mem_cons_of_mem _ hi)))
    have h2 := List.length_erase_of_mem hx
    have h3 := List.length_pos_of_mem hx
    rw [List.length_cons]
    omega

theorem least_ex {p : Nat → Prop} : ∀ (n : Nat), p n → ∃ i, i ≤ n ∧ p i ∧ ∀ j, j < i → ¬ p j := by
  intro n
  induction n using Nat.strongRecOn with
  | _ n ih =>
    intro h
    by_cases hx : ∃ j, j < n ∧ p j
    · obtain ⟨j, hj, hp⟩ := hx
      obtain ⟨i, h1, h2, h3⟩ := ih j hj hp
      exact ⟨i, by omega, h2, h3⟩
    · exact ⟨n, Nat.le_refl _, h, fun j hj hp => hx ⟨j, hj, hp⟩⟩

/-- Without a way around something may come next, as long as not all has come. -/
theorem Top.more {es : List (Nat × Nat)} {N : Nat} {out : List Nat} (hv : ∀ e ∈ es, e.1 < N ∧ e.2 < N) (hno : ∀ n a, ¬ W es (n + 1) a a) (hl : out.length < N) : ∃ i, i < N ∧ rdy es out i ∧ ∀ j, j < i → ¬ rdy es out j := by
  by_cases hx : ∃ i, i < N ∧ rdy es out i
  · obtain ⟨i, hi, hr⟩ := hx
    obtain ⟨j, h1, h2, h3⟩ := least_ex i hr
    exact ⟨j, by omega, h2, h3⟩
  · exfalso
    have hpred : ∀ x, x < N → x ∉ out → ∃ p, p < N ∧ p ∉ out ∧ (p, x) ∈ es := by
      intro x hxN hxo
      apply Classical.byContradiction
      intro hcon
      refine hx ⟨x, hxN, hxo, fun e he h2 => ?_⟩
      apply Classical.byContradiction
      intro h3
      exact hcon ⟨e.1, (hv e he).1, h3, by rw [← h2]; exact he⟩
    have hex : ∃ x, x < N ∧ x ∉ out := by
      apply Classical.byContradiction
      intro hcon
      have := nodup_sub (List.range N) out List.nodup_range (fun i hi => Classical.byContradiction fun hh => hcon ⟨i, List.mem_range.1 hi, hh⟩)
      rw [List.length_range] at this
      omega
    have key : ∀ m, ∃ (h : Nat) (l : List Nat), (h :: l).length = m + 1 ∧ (h :: l).Nodup ∧ (∀ i ∈ h :: l, i < N ∧ i ∉ out) ∧ ∀ i ∈ h :: l, ∃ n, W es n h i := by
      intro m
      induction m with
      | zero =>
        obtain ⟨x, h1, h2⟩ := hex
        exact ⟨x, [], rfl, List.nodup_cons.2 ⟨by simp, .nil⟩, by simp [h1, h2], fun i hi => ⟨0, by
          have : i = x := by simpa using hi
          exact this.symm⟩⟩
      | succ m ih =>
        obtain ⟨h, l, h1, h2, h3, h4⟩ := ih
        have hh := h3 h (List.mem_cons_self ..)
        obtain ⟨p, p1, p2, p3⟩ := hpred h hh.1 hh.2
        refine ⟨p, h :: l, by rw [List.length_cons, h1], List.nodup_cons.2 ⟨fun hm => ?_, h2⟩, ?_, ?_⟩
        · obtain ⟨n, hn⟩ := h4 p hm
          exact hno n h ⟨p, hn, p3⟩
        · intro i hi
          rcases List.mem_cons.1 hi with rfl | hi
          · exact ⟨p1, p2⟩
          · exact h3 i hi
        · intro i hi
          rcases List.mem_cons.1 hi with rfl | hi
          · exact ⟨0, rfl⟩
          · obtain ⟨n, hn⟩ := h4 i hi
            exact ⟨n + 1, W_cons.2 ⟨h, p3, hn⟩⟩
    obtain ⟨h, l, h1, h2, h3, _⟩ := key N
    have := nodup_le N (h :: l) h2 fun i hi => (h3 i hi).1
    omega

/-- The whole order. -/
theorem Top.uniq {es : List (Nat × Nat)} {N : Nat} : ∀ {l m : List Nat}, Top es N l → Top es N m → l.length = m.length → l = m := by
  intro l m hl
  induction hl generalizing m with
  | nil => intro _ h; exact (List.eq_nil_of_length_eq_zero h.symm).symm
  | step h hi hr hle ih =>
    rename_i out i
    intro hm hlen
    cases hm with
    | nil => simp at hlen
    | step h' hi' hr' hle' =>
      rename_i out' i'
      have : out = out' := ih h' (by simpa using hlen)
      subst this
      rw [rdy_eq hr hle hr' hle']

/-- A walk of some edges that returns, from a list of indices that does. -/
theorem Ch.around {es : List (Nat × Nat)} {i : Nat} {l : List Nat} {a : Nat} (h : Ch es (i :: l) a a) : W es (l.length + 1) a a := by
  have := h.walk (first := 0) (fun _ _ => Nat.zero_le _)
  rw [List.drop_zero] at this
  exact this

/-- A walk as a list of indices. -/
theorem W.ch {es : List (Nat × Nat)} : ∀ {n a b : Nat}, W es n a b → ∃ l, l.length = n ∧ Ch es l a b
  | 0, a, b, h => ⟨[], rfl, h⟩
  | n + 1, a, b, h => by
    obtain ⟨c, h1, h2⟩ := W_cons.1 h
    obtain ⟨l, h3, h4⟩ := W.ch h2
    obtain ⟨i, hi, hie⟩ := List.getElem_of_mem h1
    have hg : es.getD i (0, 0) = (a, c) := by
      rw [List.getD_eq_getElem?_getD, List.getElem?_eq_getElem hi, Option.getD_some, hie]
    exact ⟨i :: l, by rw [List.length_cons, h3], hi, by rw [hg], by rw [hg]; exact h4⟩

/-- The reference finds a cycle exactly if a way leads around. -/
theorem cycle_iff {es : List (Nat × Nat)} {N : Nat} (T : HasD es N) {b : List Nat} (hb : Mst (cand es N) (fun i => dT es N 0 i) (fun i => cyc es N 0 i) es.length b) : 0 < b.length ↔ ∃ n a, W es (n + 1) a a := by
  classical
  constructor
  · intro h
    rcases hb with ⟨h1, _⟩ | ⟨k, h1, h2, h3, _⟩
    · rw [h1] at h; simp at h
    · have := (cyc_ch T (Nat.zero_le _) h1 h2.1).1
      exact ⟨_, _, Ch.around this⟩
  · rintro ⟨n, a, hw⟩
    obtain ⟨l, h1, h2⟩ := hw.ch
    obtain ⟨j, hj, hle⟩ := least_of l (by intro e; rw [e] at h1; simp at h1)
    obtain ⟨b1, b2, b3⟩ := least_cycle T h2 hj hle
    have hcl : ∀ i, i < es.length → goOk es N i → ((cyc es N i i).length : Int) = dT es N i i + 1 := fun i hi h => (cyc_ch T (by omega) hi h).2.2
    have hex : ∀ n, n ≤ es.length → ∃ c, Mst (goOk es N) (fun i => dT es N i i) (fun i => cyc es N i i) n c := by
      intro n
      induction n with
      | zero => intro _; exact ⟨[], .first⟩
      | succ n ih =>
        intro hn
        obtain ⟨c, hc⟩ := ih (by omega)
        by_cases hok : goOk es N n
        · by_cases hcc : c = [] ∨ dT es N n n + 1 < c.length
          · exact ⟨_, hc.new (fun _ => by simp [cyc]) (fun j hj => hcl j (by omega)) hok hcc⟩
          · refine ⟨c, hc.keep (fun j hj => hcl j (by omega)) (fun e => hcc (.inl e)) ?_⟩
            have : ¬ dT es N n n + 1 < c.length := fun hh => hcc (.inr hh)
            omega
        · exact ⟨c, hc.none hok⟩
    obtain ⟨c, hc⟩ := hex es.length (Nat.le_refl _)
    have hcb := cycles_same T hc hb
    rw [← hcb]
    rcases hc with ⟨_, h3⟩ | ⟨k, _, _, h3, _⟩
    · exact (h3 j b1 b2).elim
    · rw [h3]; simp [cyc]
end Go.Plain

namespace Go.Plain

theorem take_succ_getD' {α : Type} : ∀ (l : List α) (j : Nat) (a : α), j < l.length → l.take (j + 1) = l.take j ++ [l.getD j a]
  | [], j, a, h => by simp at h
  | x :: l, 0, a, h => by simp
  | x :: l, j + 1, a, h => by
    have := take_succ_getD' l j a (by simpa using h)
    rw [List.take_succ_cons, this]
    rfl

theorem Top.take {es : List (Nat × Nat)} {N : Nat} {out : List Nat} (h : Top es N out) : ∀ m, Top es N (out.take m) := by
  induction h with
  | nil => intro m; rw [List.take_nil]; exact .nil
  | step h hi hr hl ih =>
    rename_i out i
    intro m
    rcases Nat.lt_or_ge out.length m with hm | hm
    · rw [List.take_of_length_le (by rw [List.length_append]; simp only [List.length_cons, List.length_nil]; omega)]
      exact h.step hi hr hl
    · rw [List.take_append_of_le_length hm]
      exact ih m

theorem Top.at {es : List (Nat × Nat)} {N : Nat} {out : List Nat} (h : Top es N out) {m : Nat} (hm : m < out.length) : out.getD m 0 < N ∧ rdy es (out.take m) (out.getD m 0) := by
  have h1 := h.take (m + 1)
  rw [take_succ_getD' out m 0 hm] at h1
  generalize hq : out.take m ++ [out.getD m 0] = q at h1
  cases h1 with
  | nil => simp at hq
  | step h2 hi hr hl =>
    obtain ⟨e1, e2⟩ := List.append_inj' hq rfl
    rw [e1]
    rw [List.cons.inj e2 |>.1]
    exact ⟨hi, hr⟩

/-- A way to what has come is shorter than what has come. -/
theorem Top.short {es : List (Nat × Nat)} {N : Nat} {out : List Nat} (h : Top es N out) : ∀ n a k, k ∈ out → W es n a k → n < out.length := by
  induction h with
  | nil => intro n a k hk; cases hk
  | step h hi hr hl ih =>
    rename_i out i
    intro n a k hk hw
    rw [List.length_append]
    simp only [List.length_cons, List.length_nil]
    rcases List.mem_append.1 hk with hk | hk
    · have := ih n a k hk hw
      omega
    · have hki : k = i := List.mem_singleton.1 hk
      subst hki
      cases n with
      | zero => omega
      | succ n =>
        obtain ⟨c, hc, he⟩ := hw
        have := ih n a c (hr.2 _ he rfl) hc
        omega

/-- Lengths of ways that end at a node. -/
structure Ls (es : List (Nat × Nat)) (N : Nat) (d : List Int) : Prop where
  len : d.length = N
  snd : ∀ k, k < N → ∃ n a, d.getD k 0 = ((n : Nat) : Int) ∧ W es n a k

/-- The greatest. -/
structure IsL (es : List (Nat × Nat)) (N : Nat) (d : List Int) : Prop extends Ls es N d where
  rel : ∀ e ∈ es, d.getD e.1 0 + 1 ≤ d.getD e.2 0

theorem Ls.zero (es : List (Nat × Nat)) (N : Nat) : Ls es N (List.replicate N 0) :=
  ⟨by simp, fun k hk => ⟨0, k, by simp [List.getD_eq_getElem?_getD, hk], rfl⟩⟩

theorem Ls.nonneg {es : List (Nat × Nat)} {N : Nat} {d : List Int} (h : Ls es N d) {k : Nat} (hk : k < N) : 0 ≤ d.getD k 0 := by
  obtain ⟨n, a, h1, _⟩ := h.snd k hk
  omega

theorem Ls.small {es : List (Nat × Nat)} {N : Nat} {d : List Int} {out : List Nat} (h : Ls es N d) (hT : Top es N out) (ho : out.length = N) {k : Nat} (hk : k < N) : d.getD k 0 < N := by
  obtain ⟨n, a, h1, h2⟩ := h.snd k hk
  have := hT.short n a k (nodup_all hT.nodup hT.lt ho k hk) h2
  omega

theorem Ls.step {es : List (Nat × Nat)} {N : Nat} {d : List Int} (h : Ls es N d) {e : Nat × Nat} (he : e ∈ es) (h1 : e.1 < N) (h2 : e.2 < N) : Ls es N (d.set e.2 (d.getD e.1 0 + 1)) := by
  have hl := h.len
  refine ⟨by rw [List.length_set]; exact h.len, fun k hk => ?_⟩
  rw [getD_set _ _ _ _ (by omega)]
  split
  · rename_i hke
    obtain ⟨n, a, h3, h4⟩ := h.snd e.1 h1
    exact ⟨n + 1, a, by rw [h3]; rfl, e.1, h4, by rw [hke]; exact he⟩
  · exact h.snd k hk

theorem IsL.ge {es : List (Nat × Nat)} {N : Nat} {d : List Int} (h : IsL es N d) (hv : ∀ e ∈ es, e.1 < N ∧ e.2 < N) : ∀ n a k, k < N → W es n a k → (n : Int) ≤ d.getD k 0 := by
  intro n
  induction n with
  | zero => intro a k hk _; exact h.toLs.nonneg hk
  | succ n ih =>
    rintro a k hk ⟨c, hc, he⟩
    have h1 := ih a c (hv _ he).1 hc
    have h2 := h.rel _ he
    simp only at h2
    omega

theorem IsL.eq {es : List (Nat × Nat)} {N : Nat} {d d' : List Int} (h : IsL es N d) (h' : IsL es N d') (hv : ∀ e ∈ es, e.1 < N ∧ e.2 < N) : d = d' := by
  apply List.ext_getElem (by rw [h.len, h'.len])
  intro k h1 h2
  have hk : k < N := by rw [← h.len]; exact h1
  have e1 : d.getD k 0 = d[k] := by rw [List.getD_eq_getElem?_getD, List.getElem?_eq_getElem h1]; rfl
  have e2 : d'.getD k 0 = d'[k] := by rw [List.getD_eq_getElem?_getD, List.getElem?_eq_getElem h2]; rfl
  obtain ⟨n, a, h3, h4⟩ := h.snd k hk
  obtain ⟨m, b, h5, h6⟩ := h'.snd k hk
  have := h.ge hv m b k hk h6
  have := h'.ge hv n a k hk h4
  omega

/-- What may still be added. -/
def slack (N : Nat) (d : List Int) : Nat := (d.map fun x : Int => ((N : Int) - x).toNat).sum

theorem slack_set (N : Nat) : ∀ (d : List Int) (t : Nat) (v : Int), t < d.length → d.getD t 0 < v → v ≤ N → slack N (d.set t v) < slack N d
  | [], t, v, h, _, _ => by simp at h
  | a :: d, 0, v, h, h1, h2 => by
    simp only [List.getD_cons_zero] at h1
    simp only [slack, List.set_cons_zero, List.map_cons, List.sum_cons]
    omega
  | a :: d, t + 1, v, h, h1, h2 => by
    have := slack_set N d t v (by simpa using h) (by simpa using h1) h2
    simp only [slack, List.set_cons_succ, List.map_cons, List.sum_cons] at this ⊢
    omega

/-- While the order is gone through: what has come is relaxed, and of the node at hand the first edges. -/
structure Lj (es : List (Nat × Nat)) (N : Nat) (pre : List Nat) (x j : Nat) (d : List Int) : Prop extends Ls es N d where
  old : ∀ e ∈ es, e.1 ∈ pre → d.getD e.1 0 + 1 ≤ d.getD e.2 0
  new : ∀ e ∈ es.take j, e.1 = x → d.getD e.1 0 + 1 ≤ d.getD e.2 0

theorem Lj.skip {es : List (Nat × Nat)} {N x j : Nat} {pre : List Nat} {d : List Int} (h : Lj es N pre x j d) (hj : j < es.length) (hx : (es.getD j (0, 0)).1 ≠ x) : Lj es N pre x (j + 1) d := by
  refine ⟨h.toLs, h.old, fun e he hex => ?_⟩
  rw [take_succ_getD' es j (0, 0) hj] at he
  rcases List.mem_append.1 he with he | he
  · exact h.new e he hex
  · rw [List.mem_singleton.1 he] at hex
    exact (hx hex).elim

theorem Lj.top {es : List (Nat × Nat)} {N x j : Nat} {pre : List Nat} {d : List Int} (h : Lj es N pre x j d) (hj : j < es.length) (hx : (es.getD j (0, 0)).1 = x) (hv : ∀ e ∈ es, e.1 < N ∧ e.2 < N)
    (h2 : (es.getD j (0, 0)).2 ≠ x) (h3 : (es.getD j (0, 0)).2 ∉ pre) : Lj es N pre x (j + 1) (d.set (es.getD j (0, 0)).2 (max (d.getD (es.getD j (0, 0)).2 0) (d.getD x 0 + 1))) := by
  have hme : es.getD j (0, 0) ∈ es := by
    rw [List.getD_eq_getElem?_getD, List.getElem?_eq_getElem hj]
    exact List.getElem_mem hj
  have hm := hv _ hme
  have hl := h.len
  generalize hE : es.getD j (0, 0) = f at *
  have hg := fun k v => getD_set d f.2 v k (by omega)
  have hLs : Ls es N (d.set f.2 (max (d.getD f.2 0) (d.getD x 0 + 1))) := by
    rcases Int.le_total (d.getD f.2 0) (d.getD x 0 + 1) with h4 | h4
    · rw [Int.max_eq_right h4, ← hx]
      exact h.toLs.step hme hm.1 hm.2
    · rw [Int.max_eq_left h4]
      refine ⟨by rw [List.length_set]; exact hl, fun k hk => ?_⟩
      rw [hg]
      split
      · rename_i hk2; rw [← hk2]; exact h.snd k hk
      · exact h.snd k hk
  refine ⟨hLs, fun e he hep => ?_, fun e he hex => ?_⟩
  · have h4 := h.old e he hep
    rw [hg, hg, if_neg (fun hh => h3 (by rw [← hh]; exact hep))]
    split
    · rename_i h5; rw [h5] at h4; omega
    · exact h4
  · rw [hg, hg, if_neg (fun hh => h2 (by rw [← hh]; exact hex))]
    rw [take_succ_getD' es j (0, 0) hj, hE] at he
    rcases List.mem_append.1 he with he | he
    · have h4 := h.new e he hex
      split
      · rename_i h5; rw [h5] at h4; omega
      · exact h4
    · rw [List.mem_singleton.1 he, if_pos rfl, hx]
      omega

theorem Lj.shut {es : List (Nat × Nat)} {N x : Nat} {pre : List Nat} {d : List Int} (h : Lj es N pre x es.length d) : ∀ e ∈ es, e.1 ∈ pre ++ [x] → d.getD e.1 0 + 1 ≤ d.getD e.2 0 := by
  intro e he hm
  rcases List.mem_append.1 hm with hm | hm
  · exact h.old e he hm
  · exact h.new e (by rw [List.take_length]; exact he) (List.mem_singleton.1 hm)
end Go.Plain
/-
  Contracts: Index, Order.
-/
namespace Go.Ds
open Go.Proofs Go.Plain
variable {H : Heap}

theorem index_ok (v : Value) (x : Int) (xs : List Int) (hv : Sl1 H v (.int .i64) xs) (hx : xs.length < 1000000) :
    Fn Try.prog 40 [v, I x] H fun r H' => H' = H ∧ ((∃ i : Nat, i < xs.length ∧ r = I i ∧ xs.getD i 0 = x ∧ ∀ j, j < i → xs.getD j 0 ≠ x) ∨ (r = I (-1) ∧ ∀ j, j < xs.length → xs.getD j 0 ≠ x)) := by
  refine Fn.of_wp (fn := Try.f40) rfl rfl (by kernel_rfl) fun l hl => ?_
  have hn : l.length = 19 := by rw [hl]; rfl
  have g0 : get l 0 = v := by rw [hl]; rfl
  have g1 : get l 1 = I x := by rw [hl]; rfl
  clear hl
  repeat first | (with_reducible first | refine Wp.seq ?_ | refine Wp.reg ?_ | refine Wp.block ?_ | refine Wp.skip ?_ | refine Wp.ret ?_ | refine Wp.exit ?_ | refine Wp.label ?_ | refine Wp.condG ?_) | simp (disch := omega) only [↓RP, RQ, TS, TR, ↓reduceIte, Nat.reduceEqDiff, Nat.reduceLT, Nat.reduceLeDiff, Int.reduceLT, Int.reduceLE, Int.reduceEq, Int.reduceAdd, Int.reduceSub, Int.reduceNeg, Int.reduceToNat, Nat.reduceAdd, Nat.reduceMul, Nat.reduceSub, reduceCtorEq, RC, hn, g0, g1, hv.len]
  refine Wp.loopN (fun n l H' => H' = H ∧ l.length = 19 ∧ get l 0 = v ∧ get l 1 = I x ∧ get l 7 = I xs.length ∧ ∃ i : Nat, n + i = xs.length ∧ get l 8 = I i ∧ ∀ j, j < i → xs.getD j 0 ≠ x) xs.length ?_ ?_
  · repeat first | (with_reducible first | refine Wp.seq ?_ | refine Wp.reg ?_ | refine Wp.block ?_ | refine Wp.skip ?_ | refine Wp.ret ?_ | refine Wp.exit ?_ | refine Wp.label ?_ | refine Wp.condG ?_) | simp (disch := omega) only [↓RP, RQ, TS, TR, ↓reduceIte, Nat.reduceEqDiff, Nat.reduceLT, Nat.reduceLeDiff, Int.reduceLT, Int.reduceLE, Int.reduceEq, Int.reduceAdd, Int.reduceSub, Int.reduceNeg, Int.reduceToNat, Nat.reduceAdd, Nat.reduceMul, Nat.reduceSub, reduceCtorEq, RC, hn, g0, g1]
    exact ⟨0, rfl, rfl, fun j hj => absurd hj (Nat.not_lt_zero _)⟩
  clear hn g0 g1
  rintro n l H' ⟨rfl, hn, g0, g1, g7, i, hi, g8, hs⟩
  repeat first | (with_reducible first | refine Wp.seq ?_ | refine Wp.reg ?_ | refine Wp.block ?_ | refine Wp.skip ?_ | refine Wp.ret ?_ | refine Wp.exit ?_ | refine Wp.label ?_ | refine Wp.condG ?_) | simp (disch := omega) only [↓RP, RQ, TS, TR, ↓reduceIte, Nat.reduceEqDiff, Nat.reduceLT, Nat.reduceLeDiff, Int.reduceLT, Int.reduceLE, Int.reduceEq, Int.reduceAdd, Int.reduceSub, Int.reduceNeg, Int.reduceToNat, Nat.reduceAdd, Nat.reduceMul, Nat.reduceSub, reduceCtorEq, RC, hn, g0, g1, g7, g8]
  refine condW_split (fun h3 => ?_) (fun h3 => ?_)
  · repeat first | (with_reducible first | refine Wp.seq ?_ | refine Wp.reg ?_ | refine Wp.block ?_ | refine Wp.skip ?_ | refine Wp.ret ?_ | refine Wp.exit ?_ | refine Wp.label ?_ | refine Wp.condG ?_) | simp (disch := omega) only [↓RP, RQ, TS, TR, ↓reduceIte, Nat.reduceEqDiff, Nat.reduceLT, Nat.reduceLeDiff, Int.reduceLT, Int.reduceLE, Int.reduceEq, Int.reduceAdd, Int.reduceSub, Int.reduceNeg, Int.reduceToNat, Nat.reduceAdd, Nat.reduceMul, Nat.reduceSub, reduceCtorEq, RC, hn, g0, g1, g7, g8, hv.idx, hv.ld 0]
    refine condW_split (fun h4 => ?_) (fun h4 => ?_)
    · repeat first | (with_reducible first | refine Wp.seq ?_ | refine Wp.reg ?_ | refine Wp.block ?_ | refine Wp.skip ?_ | refine Wp.ret ?_ | refine Wp.exit ?_ | refine Wp.label ?_ | refine Wp.condG ?_) | simp (disch := omega) only [↓RP, RQ, TS, TR, ↓reduceIte, Nat.reduceEqDiff, Nat.reduceLT, Nat.reduceLeDiff, Int.reduceLT, Int.reduceLE, Int.reduceEq, Int.reduceAdd, Int.reduceSub, Int.reduceNeg, Int.reduceToNat, Nat.reduceAdd, Nat.reduceMul, Nat.reduceSub, reduceCtorEq, RC, hn, g0, g1, g7, g8]
      exact .inl ⟨i, by omega, rfl, h4.symm, hs⟩
    · repeat first | (with_reducible first | refine Wp.seq ?_ | refine Wp.reg ?_ | refine Wp.block ?_ | refine Wp.skip ?_ | refine Wp.ret ?_ | refine Wp.exit ?_ | refine Wp.label ?_ | refine Wp.condG ?_) | simp (disch := omega) only [↓RP, RQ, TS, TR, ↓reduceIte, Nat.reduceEqDiff, Nat.reduceLT, Nat.reduceLeDiff, Int.reduceLT, Int.reduceLE, Int.reduceEq, Int.reduceAdd, Int.reduceSub, Int.reduceNeg, Int.reduceToNat, Nat.reduceAdd, Nat.reduceMul, Nat.reduceSub, reduceCtorEq, RC, hn, g0, g1, g7, g8, wrap_fit]
      refine ⟨n - 1, by omega, i + 1, by omega, rfl, fun j hj => ?_⟩
      by_cases e : j = i
      · subst e; exact fun hh => h4 hh.symm
      · exact hs j (by omega)
  · repeat first | (with_reducible first | refine Wp.seq ?_ | refine Wp.reg ?_ | refine Wp.block ?_ | refine Wp.skip ?_ | refine Wp.ret ?_ | refine Wp.exit ?_ | refine Wp.label ?_ | refine Wp.condG ?_) | simp (disch := omega) only [↓RP, RQ, TS, TR, ↓reduceIte, Nat.reduceEqDiff, Nat.reduceLT, Nat.reduceLeDiff, Int.reduceLT, Int.reduceLE, Int.reduceEq, Int.reduceAdd, Int.reduceSub, Int.reduceNeg, Int.reduceToNat, Nat.reduceAdd, Nat.reduceMul, Nat.reduceSub, reduceCtorEq, RC, hn, g0, g1, g7, g8]
    exact .inr fun j hj => hs j (by omega)

/-- How many edges lead to a node from what has not come. -/
def cA (es : List (Nat × Nat)) (out : List Nat) (k : Nat) : Nat := es.countP fun e => decide (e.2 = k ∧ e.1 ∉ out)
/-- How many lead from a node to a node. -/
def cC (es : List (Nat × Nat)) (n k : Nat) : Nat := es.countP fun e => decide (e.1 = n ∧ e.2 = k)

theorem cA_split (n k : Nat) (out : List Nat) (hn : n ∉ out) : ∀ es : List (Nat × Nat), cA es out k = cA es (out ++ [n]) k + cC es n k
  | [] => rfl
  | e :: es => by
    have ih := cA_split n k out hn es
    unfold cA cC at ih ⊢
    have hp : (if decide (e.2 = k ∧ e.1 ∉ out) = true then 1 else 0) = (if decide (e.2 = k ∧ e.1 ∉ out ++ [n]) = true then 1 else 0) + (if decide (e.1 = n ∧ e.2 = k) = true then 1 else 0) := by
      by_cases h1 : e.2 = k
      · by_cases h2 : e.1 ∈ out
        · have h3 : e.1 ≠ n := fun hh => hn (by rw [← hh]; exact h2)
          simp [h1, h2, h3]
        · by_cases h3 : e.1 = n
          · simp [h1, h3, hn]
          · simp [h1, h2, h3]
      · simp [h1]
    simp only [List.countP_cons]
    omega

theorem cA_zero {es : List (Nat × Nat)} {out : List Nat} {k : Nat} : cA es out k = 0 ↔ ∀ e ∈ es, e.2 = k → e.1 ∈ out := by
  unfold cA
  rw [List.countP_eq_zero]
  constructor
  · intro h e he h2
    have := h e he
    simp only [decide_eq_true_eq] at this
    exact Classical.byContradiction fun hh => this ⟨h2, hh⟩
  · intro h e he
    simp only [decide_eq_true_eq]
    rintro ⟨h2, h3⟩
    exact h3 (h e he h2)

/-- The table of waits. -/
structure Wt (es : List (Nat × Nat)) (N : Nat) (out : List Nat) (d : List Int) : Prop where
  len : d.length = N
  old : ∀ k, k < N → k ∈ out → d.getD k 0 = -1
  new : ∀ k, k < N → k ∉ out → d.getD k 0 = cA es out k

theorem Wt.rdy {es : List (Nat × Nat)} {N : Nat} {out : List Nat} {d : List Int} (h : Wt es N out d) {k : Nat} (hk : k < N) : d.getD k 0 = 0 ↔ rdy es out k := by
  by_cases hm : k ∈ out
  · constructor
    · intro h0
      have := h.old k hk hm
      omega
    · intro hr; exact (hr.1 hm).elim
  · rw [h.new k hk hm]
    constructor
    · intro h0
      exact ⟨hm, cA_zero.1 (by omega)⟩
    · intro hr
      have := cA_zero.2 hr.2
      omega

/-- The table while the edges of a node are taken off. -/
structure Wj (es : List (Nat × Nat)) (N : Nat) (out : List Nat) (n j : Nat) (d : List Int) : Prop where
  len : d.length = N
  old : ∀ k, k < N → k ∈ out ++ [n] → d.getD k 0 = -1
  new : ∀ k, k < N → k ∉ out ++ [n] → d.getD k 0 = (cA es out k : Int) - cC (es.take j) n k

theorem cC_take (es : List (Nat × Nat)) (n k j : Nat) (hj : j < es.length) : cC (es.take (j + 1)) n k = cC (es.take j) n k + if (es.getD j (0, 0)).1 = n ∧ (es.getD j (0, 0)).2 = k then 1 else 0 := by
  rw [take_succ_getD es j (0, 0) hj]
  unfold cC
  rw [List.countP_append]
  simp [List.countP_cons]

theorem order_ok (N : Nat) (v : Value) (es : List (Nat × Nat)) (hv : Eg H v es) (hN : N ≤ 200) (he : es.length ≤ 1000) (hval : ∀ e ∈ es, e.1 < N ∧ e.2 < N) :
    Fn Try.prog 21 [.agg #[I N, v]] H fun r H' => ∃ (out : List Nat) (w : Value), Top es N out ∧ ((out.length = N ∧ r = .tuple #[w, I 0] ∧ St Try.prog H H' [⟨w, 1, nts out⟩]) ∨
      (out.length < N ∧ (∀ i, i < N → ¬ rdy es out i) ∧ r = .tuple #[.slice none 0 0, I 22] ∧ St Try.prog H H' [])) := by
  refine Fn.of_wp (fn := Try.f21) rfl rfl (by kernel_rfl) fun l hl => ?_
  have hn : l.length = 66 := by rw [hl]; rfl
  have g0 : get l 0 = .agg #[I N, v] := by rw [hl]; rfl
  clear hl
  repeat first | (with_reducible first | refine Wp.seq ?_ | refine Wp.reg ?_ | refine Wp.block ?_ | refine Wp.skip ?_ | refine Wp.ret ?_ | refine Wp.exit ?_ | refine Wp.label ?_ | refine Wp.condG ?_) | simp (disch := omega) only [↓RP, RQ, TS, TR, ↓reduceIte, Nat.reduceEqDiff, Nat.reduceLT, Nat.reduceLeDiff, Int.reduceLT, Int.reduceLE, Int.reduceEq, Int.reduceAdd, Int.reduceSub, Int.reduceNeg, Int.reduceToNat, Nat.reduceAdd, Nat.reduceMul, Nat.reduceSub, reduceCtorEq, RC, hn, g0]
  refine (St.refl _ H).eNew 2 [I N, v] rfl rfl (by simp [hv.one]; rfl) tS27 fun A H1 hS => ?_
  repeat first | (with_reducible first | refine Wp.seq ?_ | refine Wp.reg ?_ | refine Wp.block ?_ | refine Wp.skip ?_ | refine Wp.ret ?_ | refine Wp.exit ?_ | refine Wp.label ?_ | refine Wp.condG ?_) | simp (disch := omega) only [↓RP, RQ, TS, TR, ↓reduceIte, Nat.reduceEqDiff, Nat.reduceLT, Nat.reduceLeDiff, Int.reduceLT, Int.reduceLE, Int.reduceEq, Int.reduceAdd, Int.reduceSub, Int.reduceNeg, Int.reduceToNat, Nat.reduceAdd, Nat.reduceMul, Nat.reduceSub, reduceCtorEq, RC, hn, g0, hS.ldA 0 rfl]
  refine callFW_of (check_ok N v es (hS.base hv) hN he hval) ?_
  rintro r H2 ⟨rfl, hS2⟩
  have hS := hS.trans hS2
  simp only [List.nil_append, List.cons_append, List.append_nil, List.set_cons_zero, List.set_cons_succ, setMany_cons, setMany_nil, Nat.zero_add, Nat.mul_one, Nat.add_zero] at hS
  repeat first | (with_reducible first | refine Wp.seq ?_ | refine Wp.reg ?_ | refine Wp.block ?_ | refine Wp.skip ?_ | refine Wp.ret ?_ | refine Wp.exit ?_ | refine Wp.label ?_ | refine Wp.condG ?_) | simp (disch := omega) only [↓RP, RQ, TS, TR, ↓reduceIte, Nat.reduceEqDiff, Nat.reduceLT, Nat.reduceLeDiff, Int.reduceLT, Int.reduceLE, Int.reduceEq, Int.reduceAdd, Int.reduceSub, Int.reduceNeg, Int.reduceToNat, Nat.reduceAdd, Nat.reduceMul, Nat.reduceSub, reduceCtorEq, RC, hn, g0, hS.ld 0 rfl]
  refine hS.eMake1 N tM29 (by omega) fun w H3 hS => ?_
  repeat first | (with_reducible first | refine Wp.seq ?_ | refine Wp.reg ?_ | refine Wp.block ?_ | refine Wp.skip ?_ | refine Wp.ret ?_ | refine Wp.exit ?_ | refine Wp.label ?_ | refine Wp.condG ?_) | simp (disch := omega) only [↓RP, RQ, TS, TR, ↓reduceIte, Nat.reduceEqDiff, Nat.reduceLT, Nat.reduceLeDiff, Int.reduceLT, Int.reduceLE, Int.reduceEq, Int.reduceAdd, Int.reduceSub, Int.reduceNeg, Int.reduceToNat, Nat.reduceAdd, Nat.reduceMul, Nat.reduceSub, reduceCtorEq, RC, hn, g0]
  refine hS.eNew 1 [.slice none 0 0] rfl rfl rfl tS29 fun D H4 hS => ?_
  have hw := (hS.rd 1 rfl).cells
  repeat first | (with_reducible first | refine Wp.seq ?_ | refine Wp.reg ?_ | refine Wp.block ?_ | refine Wp.skip ?_ | refine Wp.ret ?_ | refine Wp.exit ?_ | refine Wp.label ?_ | refine Wp.condG ?_) | simp (disch := omega) only [↓RP, RQ, TS, TR, ↓reduceIte, Nat.reduceEqDiff, Nat.reduceLT, Nat.reduceLeDiff, Int.reduceLT, Int.reduceLE, Int.reduceEq, Int.reduceAdd, Int.reduceSub, Int.reduceNeg, Int.reduceToNat, Nat.reduceAdd, Nat.reduceMul, Nat.reduceSub, reduceCtorEq, RC, hn, g0]
  refine hS.eStore 2 rfl [w] (by rw [hw.1]) (by simp [hw.2.1]) tS29 (by simp) fun H5 hS => ?_
  simp only [List.nil_append, List.cons_append, List.append_nil, List.set_cons_zero, List.set_cons_succ, setMany_cons, setMany_nil, Nat.zero_add, Nat.mul_one, Nat.add_zero] at hS
  rw [show List.replicate N (Value.int .i64 0) = (List.replicate N (0 : Int)).map (.int .i64) from by simp] at hS
  have hv1 : Sl2 H5 v _ _ es := hS.base hv
  repeat first | (with_reducible first | refine Wp.seq ?_ | refine Wp.reg ?_ | refine Wp.block ?_ | refine Wp.skip ?_ | refine Wp.ret ?_ | refine Wp.exit ?_ | refine Wp.label ?_ | refine Wp.condG ?_) | simp (disch := omega) only [↓RP, RQ, TS, TR, ↓reduceIte, Nat.reduceEqDiff, Nat.reduceLT, Nat.reduceLeDiff, Int.reduceLT, Int.reduceLE, Int.reduceEq, Int.reduceAdd, Int.reduceSub, Int.reduceNeg, Int.reduceToNat, Nat.reduceAdd, Nat.reduceMul, Nat.reduceSub, reduceCtorEq, RC, hn, g0, hS.ld 0 rfl, hv1.len]
  refine Wp.loopN (fun n l H' => l.length = 66 ∧ get l 1 = ptr A 0 2 ∧ get l 5 = ptr D 0 1 ∧ get l 20 = v ∧ get l 21 = I es.length ∧ ∃ (i : Nat) (d : List Int), n + i = es.length ∧ get l 22 = I i ∧ Wt (es.take i) N [] d ∧
    St Try.prog H H' [⟨ptr A 0 2, 0, [I N, v]⟩, ⟨w, 1, d.map (.int .i64)⟩, ⟨ptr D 0 1, 0, [w]⟩]) es.length ?_ ?_
  · repeat first | (with_reducible first | refine Wp.seq ?_ | refine Wp.reg ?_ | refine Wp.block ?_ | refine Wp.skip ?_ | refine Wp.ret ?_ | refine Wp.exit ?_ | refine Wp.label ?_ | refine Wp.condG ?_) | simp (disch := omega) only [↓RP, RQ, TS, TR, ↓reduceIte, Nat.reduceEqDiff, Nat.reduceLT, Nat.reduceLeDiff, Int.reduceLT, Int.reduceLE, Int.reduceEq, Int.reduceAdd, Int.reduceSub, Int.reduceNeg, Int.reduceToNat, Nat.reduceAdd, Nat.reduceMul, Nat.reduceSub, reduceCtorEq, RC, hn, g0]
    refine ⟨0, _, rfl, rfl, ⟨by simp, (fun k _ h => by cases h), (fun k hk _ => ?_)⟩, hS⟩
    simp [cA, List.getD_eq_getElem?_getD, hk]
  clear hS hS2 hn g0 hv1 hw
  · rintro n l H' ⟨hn, g1, g5, g20, g21, i, d, hi, g22, hW, hS⟩
    have hv1 : Sl2 H' v _ _ es := hS.base hv
    repeat first | (with_reducible first | refine Wp.seq ?_ | refine Wp.reg ?_ | refine Wp.block ?_ | refine Wp.skip ?_ | refine Wp.ret ?_ | refine Wp.exit ?_ | refine Wp.label ?_ | refine Wp.condG ?_) | simp (disch := omega) only [↓RP, RQ, TS, TR, ↓reduceIte, Nat.reduceEqDiff, Nat.reduceLT, Nat.reduceLeDiff, Int.reduceLT, Int.reduceLE, Int.reduceEq, Int.reduceAdd, Int.reduceSub, Int.reduceNeg, Int.reduceToNat, Nat.reduceAdd, Nat.reduceMul, Nat.reduceSub, reduceCtorEq, RC, hn, g1, g5, g20, g21, g22]
    refine condW_split (fun h => ?_) (fun h => ?_)
    · have hil : i < es.length := by omega
      have hm := hval _ (getD_mem (0, 0) hil)
      repeat first | (with_reducible first | refine Wp.seq ?_ | refine Wp.reg ?_ | refine Wp.block ?_ | refine Wp.skip ?_ | refine Wp.ret ?_ | refine Wp.exit ?_ | refine Wp.label ?_ | refine Wp.condG ?_) | simp (disch := omega) only [↓RP, RQ, TS, TR, ↓reduceIte, Nat.reduceEqDiff, Nat.reduceLT, Nat.reduceLeDiff, Int.reduceLT, Int.reduceLE, Int.reduceEq, Int.reduceAdd, Int.reduceSub, Int.reduceNeg, Int.reduceToNat, Nat.reduceAdd, Nat.reduceMul, Nat.reduceSub, reduceCtorEq, RC, hn, g1, g5, g20, g21, g22, hv1.idx, hv1.ldA (0, 0)]
      refine hS.eNew 2 [I 0, I 0] rfl rfl rfl tS48 fun C H5 hS => ?_
      repeat first | (with_reducible first | refine Wp.seq ?_ | refine Wp.reg ?_ | refine Wp.block ?_ | refine Wp.skip ?_ | refine Wp.ret ?_ | refine Wp.exit ?_ | refine Wp.label ?_ | refine Wp.condG ?_) | simp (disch := omega) only [↓RP, RQ, TS, TR, ↓reduceIte, Nat.reduceEqDiff, Nat.reduceLT, Nat.reduceLeDiff, Int.reduceLT, Int.reduceLE, Int.reduceEq, Int.reduceAdd, Int.reduceSub, Int.reduceNeg, Int.reduceToNat, Nat.reduceAdd, Nat.reduceMul, Nat.reduceSub, reduceCtorEq, RC, hn, g1, g5, g20, g21, g22]
      refine hS.eStore 3 rfl [_, _] rfl rfl tS48 (by simp) fun H6 hS => ?_
      simp only [List.nil_append, List.cons_append, List.append_nil, List.set_cons_zero, List.set_cons_succ, setMany_cons, setMany_nil, Nat.zero_add, Nat.mul_one, Nat.add_zero] at hS
      have hd1 : Sl1 H6 w (.int .i64) d := hS.rd 1 rfl
      have hdl := hW.len
      have hcnt : cA (es.take i) [] (es.getD i (0, 0)).2 ≤ es.length := Nat.le_trans List.countP_le_length (by simp; omega)
      have hdv := hW.new _ hm.2 (by simp)
      repeat first | (with_reducible first | refine Wp.seq ?_ | refine Wp.reg ?_ | refine Wp.block ?_ | refine Wp.skip ?_ | refine Wp.ret ?_ | refine Wp.exit ?_ | refine Wp.label ?_ | refine Wp.condG ?_) | simp (disch := omega) only [↓RP, RQ, TS, TR, ↓reduceIte, Nat.reduceEqDiff, Nat.reduceLT, Nat.reduceLeDiff, Int.reduceLT, Int.reduceLE, Int.reduceEq, Int.reduceAdd, Int.reduceSub, Int.reduceNeg, Int.reduceToNat, Nat.reduceAdd, Nat.reduceMul, Nat.reduceSub, reduceCtorEq, RC, hn, g1, g5, g20, g21, g22, hS.ld 2 rfl, hS.ld 3 rfl, hd1.idx, hd1.ld 0, wrap_fit]
      refine hS.eStoreE 1 rfl [_] rfl rfl tS3 (by simp) (by simp only [List.length_map, List.length_cons, List.length_nil]; omega) fun H7 hS => ?_
      simp only [List.nil_append, List.cons_append, List.append_nil, List.set_cons_zero, List.set_cons_succ, setMany_cons, setMany_nil, Nat.zero_add, Nat.mul_one, Nat.add_zero] at hS
      rw [← List.map_set] at hS
      repeat first | (with_reducible first | refine Wp.seq ?_ | refine Wp.reg ?_ | refine Wp.block ?_ | refine Wp.skip ?_ | refine Wp.ret ?_ | refine Wp.exit ?_ | refine Wp.label ?_ | refine Wp.condG ?_) | simp (disch := omega) only [↓RP, RQ, TS, TR, ↓reduceIte, Nat.reduceEqDiff, Nat.reduceLT, Nat.reduceLeDiff, Int.reduceLT, Int.reduceLE, Int.reduceEq, Int.reduceAdd, Int.reduceSub, Int.reduceNeg, Int.reduceToNat, Nat.reduceAdd, Nat.reduceMul, Nat.reduceSub, reduceCtorEq, RC, hn, g1, g5, g20, g21, g22, wrap_fit]
      refine ⟨n - 1, by omega, i + 1, d.set (es.getD i (0, 0)).2 (d.getD (es.getD i (0, 0)).2 0 + 1), by omega, rfl, ⟨by rw [List.length_set]; exact hdl, (fun k _ h => by cases h), (fun k hk _ => ?_)⟩, hS.sub (.cons_cons _ (.cons_cons _ (.cons_cons _ (.cons _ (.refl _)))))⟩
      rw [getD_set _ _ _ _ (by omega)]
      have hk0 := hW.new k hk (by simp)
      have e : cA (es.take (i + 1)) [] k = cA (es.take i) [] k + if (es.getD i (0, 0)).2 = k then 1 else 0 := by
        rw [take_succ_getD es i (0, 0) hil]
        unfold cA
        rw [List.countP_append]
        simp [List.countP_cons]
      rw [e]
      by_cases hk2 : k = (es.getD i (0, 0)).2
      · rw [if_pos hk2, if_pos hk2.symm, hk2, hdv]
        simp
      · rw [if_neg hk2, if_neg (fun hh => hk2 hh.symm), hk0]
        simp
    · have hie : i = es.length := by omega
      subst hie
      rw [List.take_length] at hW
      repeat first | (with_reducible first | refine Wp.seq ?_ | refine Wp.reg ?_ | refine Wp.block ?_ | refine Wp.skip ?_ | refine Wp.ret ?_ | refine Wp.exit ?_ | refine Wp.label ?_ | refine Wp.condG ?_) | simp (disch := omega) only [↓RP, RQ, TS, TR, ↓reduceIte, Nat.reduceEqDiff, Nat.reduceLT, Nat.reduceLeDiff, Int.reduceLT, Int.reduceLE, Int.reduceEq, Int.reduceAdd, Int.reduceSub, Int.reduceNeg, Int.reduceToNat, Nat.reduceAdd, Nat.reduceMul, Nat.reduceSub, reduceCtorEq, RC, hn, g1, g5, g20, g21, g22]
      have hS := (hS.nil 0).front
      simp only [List.nil_append, List.cons_append, List.append_nil, List.set_cons_zero, List.set_cons_succ, setMany_cons, setMany_nil, Nat.zero_add, Nat.mul_one, Nat.add_zero] at hS
      refine Wp.loopN (fun n l H' => l.length = 66 ∧ get l 1 = ptr A 0 2 ∧ get l 5 = ptr D 0 1 ∧ ∃ (out : List Nat) (ov : Value) (d : List Int), n + out.length = N ∧ get l 8 = ov ∧ Top es N out ∧ Wt es N out d ∧
        St Try.prog H H' [⟨ov, 1, nts out⟩, ⟨ptr A 0 2, 0, [I N, v]⟩, ⟨w, 1, d.map (.int .i64)⟩, ⟨ptr D 0 1, 0, [w]⟩]) N ?_ ?_
      · repeat first | (with_reducible first | refine Wp.seq ?_ | refine Wp.reg ?_ | refine Wp.block ?_ | refine Wp.skip ?_ | refine Wp.ret ?_ | refine Wp.exit ?_ | refine Wp.label ?_ | refine Wp.condG ?_) | simp (disch := omega) only [↓RP, RQ, TS, TR, ↓reduceIte, Nat.reduceEqDiff, Nat.reduceLT, Nat.reduceLeDiff, Int.reduceLT, Int.reduceLE, Int.reduceEq, Int.reduceAdd, Int.reduceSub, Int.reduceNeg, Int.reduceToNat, Nat.reduceAdd, Nat.reduceMul, Nat.reduceSub, reduceCtorEq, RC, hn, g1, g5]
        exact ⟨[], _, d, rfl, rfl, .nil, hW, hS⟩
      clear hS hn g1 g5 g20 g21 g22 hW hv1 h hi
      rintro n l H' ⟨hn, g1, g5, out, ov, d, hnl, g8, hT, hW, hS⟩
      have hov : Sl1 H' ov (fun n : Nat => I n) out := hS.rd 0 rfl
      repeat first | (with_reducible first | refine Wp.seq ?_ | refine Wp.reg ?_ | refine Wp.block ?_ | refine Wp.skip ?_ | refine Wp.ret ?_ | refine Wp.exit ?_ | refine Wp.label ?_ | refine Wp.condG ?_) | simp (disch := omega) only [↓RP, RQ, TS, TR, ↓reduceIte, Nat.reduceEqDiff, Nat.reduceLT, Nat.reduceLeDiff, Int.reduceLT, Int.reduceLE, Int.reduceEq, Int.reduceAdd, Int.reduceSub, Int.reduceNeg, Int.reduceToNat, Nat.reduceAdd, Nat.reduceMul, Nat.reduceSub, reduceCtorEq, RC, hn, g1, g5, g8, hov.len, hS.ld 1 rfl]
      refine condW_split (fun h => ?_) (fun h => ?_)
      · have hd1 : Sl1 H' w (.int .i64) d := hS.rd 2 rfl
        have hdl := hW.len
        repeat first | (with_reducible first | refine Wp.seq ?_ | refine Wp.reg ?_ | refine Wp.block ?_ | refine Wp.skip ?_ | refine Wp.ret ?_ | refine Wp.exit ?_ | refine Wp.label ?_ | refine Wp.condG ?_) | simp (disch := omega) only [↓RP, RQ, TS, TR, ↓reduceIte, Nat.reduceEqDiff, Nat.reduceLT, Nat.reduceLeDiff, Int.reduceLT, Int.reduceLE, Int.reduceEq, Int.reduceAdd, Int.reduceSub, Int.reduceNeg, Int.reduceToNat, Nat.reduceAdd, Nat.reduceMul, Nat.reduceSub, reduceCtorEq, RC, hn, g1, g5, g8, hS.ld 3 rfl]
        refine callFW_of (index_ok w 0 d hd1 (by omega)) ?_
        rintro r H2 ⟨rfl, ⟨x, hx1, rfl, hx2, hx3⟩ | ⟨rfl, hx⟩⟩
        · have hxN : x < N := by omega
          have hrx := (hW.rdy hxN).1 hx2
          have hlx : ∀ j, j < x → ¬ rdy es out j := fun j hj hr => hx3 j hj ((hW.rdy (by omega)).2 hr)
          have hT' := hT.step hxN hrx hlx
          repeat first | (with_reducible first | refine Wp.seq ?_ | refine Wp.reg ?_ | refine Wp.block ?_ | refine Wp.skip ?_ | refine Wp.ret ?_ | refine Wp.exit ?_ | refine Wp.label ?_ | refine Wp.condG ?_) | simp (disch := omega) only [↓RP, RQ, TS, TR, ↓reduceIte, Nat.reduceEqDiff, Nat.reduceLT, Nat.reduceLeDiff, Int.reduceLT, Int.reduceLE, Int.reduceEq, Int.reduceAdd, Int.reduceSub, Int.reduceNeg, Int.reduceToNat, Nat.reduceAdd, Nat.reduceMul, Nat.reduceSub, reduceCtorEq, RC, hn, g1, g5, g8]
          refine condW_split (fun h3 => absurd h3 (by omega)) (fun _ => ?_)
          repeat first | (with_reducible first | refine Wp.seq ?_ | refine Wp.reg ?_ | refine Wp.block ?_ | refine Wp.skip ?_ | refine Wp.ret ?_ | refine Wp.exit ?_ | refine Wp.label ?_ | refine Wp.condG ?_) | simp (disch := omega) only [↓RP, RQ, TS, TR, ↓reduceIte, Nat.reduceEqDiff, Nat.reduceLT, Nat.reduceLeDiff, Int.reduceLT, Int.reduceLE, Int.reduceEq, Int.reduceAdd, Int.reduceSub, Int.reduceNeg, Int.reduceToNat, Nat.reduceAdd, Nat.reduceMul, Nat.reduceSub, reduceCtorEq, RC, hn, g1, g5, g8, hS.ld 3 rfl, hd1.idx]
          refine hS.eStoreE 2 rfl [_] rfl rfl tS3 (by simp) (by simp only [List.length_map, List.length_cons, List.length_nil]; omega) fun H3 hS => ?_
          simp only [List.nil_append, List.cons_append, List.append_nil, List.set_cons_zero, List.set_cons_succ, setMany_cons, setMany_nil, Nat.zero_add, Nat.mul_one, Nat.add_zero] at hS
          rw [← List.map_set] at hS
          repeat first | (with_reducible first | refine Wp.seq ?_ | refine Wp.reg ?_ | refine Wp.block ?_ | refine Wp.skip ?_ | refine Wp.ret ?_ | refine Wp.exit ?_ | refine Wp.label ?_ | refine Wp.condG ?_) | simp (disch := omega) only [↓RP, RQ, TS, TR, ↓reduceIte, Nat.reduceEqDiff, Nat.reduceLT, Nat.reduceLeDiff, Int.reduceLT, Int.reduceLE, Int.reduceEq, Int.reduceAdd, Int.reduceSub, Int.reduceNeg, Int.reduceToNat, Nat.reduceAdd, Nat.reduceMul, Nat.reduceSub, reduceCtorEq, RC, hn, g1, g5, g8]
          refine hS.eSlice [I x] tP29 tF29 rfl rfl (by simp [Value.cells]) rfl rfl (by decide) (by decide) fun y H4 hS => ?_
          repeat first | (with_reducible first | refine Wp.seq ?_ | refine Wp.reg ?_ | refine Wp.block ?_ | refine Wp.skip ?_ | refine Wp.ret ?_ | refine Wp.exit ?_ | refine Wp.label ?_ | refine Wp.condG ?_) | simp (disch := omega) only [↓RP, RQ, TS, TR, ↓reduceIte, Nat.reduceEqDiff, Nat.reduceLT, Nat.reduceLeDiff, Int.reduceLT, Int.reduceLE, Int.reduceEq, Int.reduceAdd, Int.reduceSub, Int.reduceNeg, Int.reduceToNat, Nat.reduceAdd, Nat.reduceMul, Nat.reduceSub, reduceCtorEq, RC, hn, g1, g5, g8]
          refine hS.eAppend 0 rfl (hS.rd 4 rfl) tP29 (by simp only [nts, List.length_map, List.length_cons, List.length_nil]; omega) fun ov' H5 hS => ?_
          simp only [List.nil_append, List.cons_append, List.append_nil, List.set_cons_zero, List.set_cons_succ, setMany_cons, setMany_nil, Nat.zero_add, Nat.mul_one, Nat.add_zero] at hS
          have hS := hS.sub (os' := [⟨ov', 1, nts (out ++ [x])⟩, ⟨ptr A 0 2, 0, [I N, v]⟩, ⟨w, 1, (d.set x (-1)).map (.int .i64)⟩, ⟨ptr D 0 1, 0, [w]⟩]) (by simp [nts])
          repeat first | (with_reducible first | refine Wp.seq ?_ | refine Wp.reg ?_ | refine Wp.block ?_ | refine Wp.skip ?_ | refine Wp.ret ?_ | refine Wp.exit ?_ | refine Wp.label ?_ | refine Wp.condG ?_) | simp (disch := omega) only [↓RP, RQ, TS, TR, ↓reduceIte, Nat.reduceEqDiff, Nat.reduceLT, Nat.reduceLeDiff, Int.reduceLT, Int.reduceLE, Int.reduceEq, Int.reduceAdd, Int.reduceSub, Int.reduceNeg, Int.reduceToNat, Nat.reduceAdd, Nat.reduceMul, Nat.reduceSub, reduceCtorEq, RC, hn, g1, g5, hS.ldA 1 rfl]
          refine callFW_of (out1_ok N x v hv.one) ?_
          rintro r H6 ⟨Ag, An, rfl, hS2⟩
          have hS := hS.trans hS2
          simp only [List.nil_append, List.cons_append, List.append_nil, List.set_cons_zero, List.set_cons_succ, setMany_cons, setMany_nil, Nat.zero_add, Nat.mul_one, Nat.add_zero] at hS
          repeat first | (with_reducible first | refine Wp.seq ?_ | refine Wp.reg ?_ | refine Wp.block ?_ | refine Wp.skip ?_ | refine Wp.ret ?_ | refine Wp.exit ?_ | refine Wp.label ?_ | refine Wp.condG ?_) | simp (disch := omega) only [↓RP, RQ, TS, TR, ↓reduceIte, Nat.reduceEqDiff, Nat.reduceLT, Nat.reduceLeDiff, Int.reduceLT, Int.reduceLE, Int.reduceEq, Int.reduceAdd, Int.reduceSub, Int.reduceNeg, Int.reduceToNat, Nat.reduceAdd, Nat.reduceMul, Nat.reduceSub, reduceCtorEq, RC, hn, g1, g5]
          refine Wp.slots fun l' hl' => ?_
          have hn' : l'.length = 66 := by rw [hl']; simp (disch := omega) only [↓RP, RQ, TS, TR, ↓reduceIte, Nat.reduceEqDiff, Nat.reduceLT, Nat.reduceLeDiff, Int.reduceLT, Int.reduceLE, Int.reduceEq, Int.reduceAdd, Int.reduceSub, Int.reduceNeg, Int.reduceToNat, Nat.reduceAdd, Nat.reduceMul, Nat.reduceSub, reduceCtorEq, RC, hn]
          have g1' : get l' 1 = ptr A 0 2 := by rw [hl']; simp (disch := omega) only [↓RP, RQ, TS, TR, ↓reduceIte, Nat.reduceEqDiff, Nat.reduceLT, Nat.reduceLeDiff, Int.reduceLT, Int.reduceLE, Int.reduceEq, Int.reduceAdd, Int.reduceSub, Int.reduceNeg, Int.reduceToNat, Nat.reduceAdd, Nat.reduceMul, Nat.reduceSub, reduceCtorEq, RC, hn, g1]
          have g5' : get l' 5 = ptr D 0 1 := by rw [hl']; simp (disch := omega) only [↓RP, RQ, TS, TR, ↓reduceIte, Nat.reduceEqDiff, Nat.reduceLT, Nat.reduceLeDiff, Int.reduceLT, Int.reduceLE, Int.reduceEq, Int.reduceAdd, Int.reduceSub, Int.reduceNeg, Int.reduceToNat, Nat.reduceAdd, Nat.reduceMul, Nat.reduceSub, reduceCtorEq, RC, hn, g5]
          have g8' : get l' 8 = ov' := by rw [hl']; simp (disch := omega) only [↓RP, RQ, TS, TR, ↓reduceIte, Nat.reduceEqDiff, Nat.reduceLT, Nat.reduceLeDiff, Int.reduceLT, Int.reduceLE, Int.reduceEq, Int.reduceAdd, Int.reduceSub, Int.reduceNeg, Int.reduceToNat, Nat.reduceAdd, Nat.reduceMul, Nat.reduceSub, reduceCtorEq, RC, hn]
          have g52' : get l' 52 = .func (.func 50) #[] [ptr Ag 0 2, ptr An 0 1].toArray := by rw [hl']; simp (disch := omega) only [↓RP, RQ, TS, TR, ↓reduceIte, Nat.reduceEqDiff, Nat.reduceLT, Nat.reduceLeDiff, Int.reduceLT, Int.reduceLE, Int.reduceEq, Int.reduceAdd, Int.reduceSub, Int.reduceNeg, Int.reduceToNat, Nat.reduceAdd, Nat.reduceMul, Nat.reduceSub, reduceCtorEq, RC, hn]
          clear hl' hn g1 g5 g8 hS2 hd1 hov
          refine Wp.rangeR g52' fun r hst hpd htm hps has hbd => ?_
          have hreq : ({ r with state := .ready, pending := none } : Loop) = r := by
            cases r
            simp only at hst hpd
            subst hst hpd
            rfl
          have hLp := Lp.enter hS r
          generalize H6.cons (.loop r) = Hc at hLp ⊢
          generalize H6.length = L at hLp ⊢
          clear hS
          have hcCl : ∀ j k, cC (es.take j) x k ≤ es.length := fun j k => Nat.le_trans List.countP_le_length (by simp; omega)
          have hcAl : ∀ k, cA es out k ≤ es.length := fun k => List.countP_le_length
          have hj0 : Wj es N out x 0 (d.set x (-1)) := by
            refine ⟨by rw [List.length_set]; exact hdl, fun k hk hm => ?_, fun k hk hm => ?_⟩
            · rw [getD_set _ _ _ _ (by omega)]
              split
              · rfl
              · rename_i hne
                rcases List.mem_append.1 hm with hm | hm
                · exact hW.old k hk hm
                · exact (hne (List.mem_singleton.1 hm)).elim
            · have hne : k ≠ x := fun hh => hm (by rw [hh]; simp)
              rw [getD_set _ _ _ _ (by omega), if_neg hne, hW.new k hk (fun hh => hm (List.mem_append_left _ hh))]
              simp [cC]
          refine (out_ok N x v es he Ag An (.func (.yield L) #[] #[])
            (fun j H1 => ∃ dd, Wj es N out x j dd ∧ Lp Try.prog H L r H1 [⟨ov', 1, nts (out ++ [x])⟩, ⟨ptr A 0 2, 0, [I N, v]⟩, ⟨w, 1, dd.map (.int .i64)⟩, ⟨ptr D 0 1, 0, [w]⟩, ⟨ptr Ag 0 2, 0, [I N, v]⟩, ⟨ptr An 0 1, 0, [I x]⟩])
            (fun _ => False) ⟨_, hj0, hLp⟩ ?_ ?_ ?_ ?_).mono ?_
          · rintro j H1 ⟨dd, _, h1⟩
            exact ⟨h1.st.var 4 rfl, h1.st.var 5 rfl, h1.st.base hv⟩
          · rintro j H1 H2 ⟨dd, h1, h2⟩ h3
            exact ⟨dd, h1, by simpa using h2.ext h3⟩
          · rintro j H1 hj hne ⟨dd, h1, h2⟩
            refine ⟨dd, ⟨h1.len, h1.old, fun k hk hm => ?_⟩, h2⟩
            rw [h1.new k hk hm, cC_take es x k j hj, if_neg (fun hh => hne hh.1)]
            simp
          · rintro j H1 hj hja ⟨dd, hJ, h1⟩
            have hme := getD_mem (0, 0) hj
            have hm := hval _ hme
            have htn : (es.getD j (0, 0)).2 ∉ out ++ [x] := by
              intro hh
              rcases List.mem_append.1 hh with hh | hh
              · have := hT.pred _ hme hh
                rw [hja] at this
                exact hrx.1 this
              · have := hrx.2 _ hme (List.mem_singleton.1 hh)
                rw [hja] at this
                exact hrx.1 this
            have hdt := hJ.new _ hm.2 htn
            have hb1 := hcCl j (es.getD j (0, 0)).2
            have hb2 := hcAl (es.getD j (0, 0)).2
            have hjl := hJ.len
            refine callW_yield h1.get (by rw [hps]; rfl) hst ?_
            refine Wp.of_eq (l := put l' (some 53) (I j)) has (by rw [hps, htm]; exact (setL_eq ..).symm) ?_
            repeat first | (with_reducible first | refine Wp.seq ?_ | refine Wp.reg ?_ | refine Wp.block ?_ | refine Wp.skip ?_ | refine Wp.ret ?_ | refine Wp.exit ?_ | refine Wp.label ?_ | refine Wp.condG ?_) | simp (disch := omega) only [↓RP, RQ, TS, TR, ↓reduceIte, Nat.reduceEqDiff, Nat.reduceLT, Nat.reduceLeDiff, Int.reduceLT, Int.reduceLE, Int.reduceEq, Int.reduceAdd, Int.reduceSub, Int.reduceNeg, Int.reduceToNat, Nat.reduceAdd, Nat.reduceMul, Nat.reduceSub, reduceCtorEq, RC, hn']
            refine ⟨r, h1.get, hst, ?_⟩
            have hB := h1.set (fun h => h) { r with state := .busy }
            generalize hset H1 L (.loop { r with state := .busy }) = Hb at hB ⊢
            refine Wp.of_eq hbd rfl ?_
            have hS := hB.st.rebase
            have hv1 : Sl2 Hb v _ _ es := hB.st.base hv
            have hd1 : Sl1 Hb w (.int .i64) dd := hS.rd 2 rfl
            repeat first | (with_reducible first | refine Wp.seq ?_ | refine Wp.reg ?_ | refine Wp.block ?_ | refine Wp.skip ?_ | refine Wp.ret ?_ | refine Wp.exit ?_ | refine Wp.label ?_ | refine Wp.condG ?_) | with_reducible refine Wp.drw hmix (by kernel_rfl) ?_ | simp (disch := omega) only [↓RP, RQ, TS, TR, ↓reduceIte, Nat.reduceEqDiff, Nat.reduceLT, Nat.reduceLeDiff, Int.reduceLT, Int.reduceLE, Int.reduceEq, Int.reduceAdd, Int.reduceSub, Int.reduceNeg, Int.reduceToNat, Nat.reduceAdd, Nat.reduceMul, Nat.reduceSub, reduceCtorEq, RC, hn', g1', g5', g8', hS.ld 1 rfl, hS.ld 3 rfl, hv1.idx, hv1.fld, hv1.ld1 (0, 0), hd1.idx, hd1.ld 0, wrap_fit]
            refine hS.eStoreE 2 rfl [_] rfl rfl tS3 (by simp) (by simp only [List.length_map, List.length_cons, List.length_nil]; omega) fun H8 hS => ?_
            simp only [List.nil_append, List.cons_append, List.append_nil, List.set_cons_zero, List.set_cons_succ, setMany_cons, setMany_nil, Nat.zero_add, Nat.mul_one, Nat.add_zero] at hS
            rw [← List.map_set] at hS
            repeat first | (with_reducible first | refine Wp.seq ?_ | refine Wp.reg ?_ | refine Wp.block ?_ | refine Wp.skip ?_ | refine Wp.ret ?_ | refine Wp.exit ?_ | refine Wp.label ?_ | refine Wp.condG ?_) | simp (disch := omega) only [↓RP, RQ, TS, TR, ↓reduceIte, Nat.reduceEqDiff, Nat.reduceLT, Nat.reduceLeDiff, Int.reduceLT, Int.reduceLE, Int.reduceEq, Int.reduceAdd, Int.reduceSub, Int.reduceNeg, Int.reduceToNat, Nat.reduceAdd, Nat.reduceMul, Nat.reduceSub, reduceCtorEq, RC, hn', g1', g5', g8']
            have hB2 := hB.body hS
            refine ⟨_, hB2.get, true, rfl, (fun _ => ⟨dd.set (es.getD j (0, 0)).2 (dd.getD (es.getD j (0, 0)).2 0 - 1), ?_, ?_⟩), (fun h => by cases h)⟩
            · refine ⟨by rw [List.length_set]; exact hjl, fun k hk hmk => ?_, fun k hk hmk => ?_⟩
              · rw [getD_set _ _ _ _ (by omega), if_neg (fun hh => htn (by rw [← hh]; exact hmk))]
                exact hJ.old k hk hmk
              · rw [getD_set _ _ _ _ (by omega), cC_take es x k j hj]
                by_cases hk2 : k = (es.getD j (0, 0)).2
                · rw [if_pos hk2, if_pos ⟨hja, hk2.symm⟩, hk2, hdt]
                  simp
                  omega
                · rw [if_neg hk2, if_neg (fun hh => hk2 hh.2.symm), hJ.new k hk hmk]
                  simp
            · have := hB2.set (fun h => h) r
              rw [← hreq] at this
              exact hreq ▸ this
          · rintro _ H7 (⟨dd, hJ, h1⟩ | hf)
            · refine ⟨_, h1.get, (by rw [hst]; intro h; cases h), (fun _ => ?_), (fun c hc => by rw [hpd] at hc; cases hc)⟩
              have hB := h1.set (fun h => h) { r with state := .exhausted }
              have hS := hB.st
              generalize hset H7 L (.loop { r with state := .exhausted }) = H8 at hS ⊢
              repeat first | (with_reducible first | refine Wp.seq ?_ | refine Wp.reg ?_ | refine Wp.block ?_ | refine Wp.skip ?_ | refine Wp.ret ?_ | refine Wp.exit ?_ | refine Wp.label ?_ | refine Wp.condG ?_) | simp (disch := omega) only [↓RP, RQ, TS, TR, ↓reduceIte, Nat.reduceEqDiff, Nat.reduceLT, Nat.reduceLeDiff, Int.reduceLT, Int.reduceLE, Int.reduceEq, Int.reduceAdd, Int.reduceSub, Int.reduceNeg, Int.reduceToNat, Nat.reduceAdd, Nat.reduceMul, Nat.reduceSub, reduceCtorEq, RC, hn', g1', g5', g8']
              refine ⟨n - 1, by omega, out ++ [x], ov', dd, ?_, rfl, hT', ⟨hJ.len, hJ.old, fun k hk hm => ?_⟩, hS.sub ?_⟩
              · rw [List.length_append]
                simp only [List.length_cons, List.length_nil]
                omega
              · have := hJ.new k hk hm
                rw [List.take_length] at this
                rw [this, cA_split x k out hrx.1 es]
                omega
              · exact .cons_cons _ (.cons_cons _ (.cons_cons _ (.cons_cons _ (.cons _ (.cons _ (.refl _))))))
            · exact hf.elim
        · repeat first | (with_reducible first | refine Wp.seq ?_ | refine Wp.reg ?_ | refine Wp.block ?_ | refine Wp.skip ?_ | refine Wp.ret ?_ | refine Wp.exit ?_ | refine Wp.label ?_ | refine Wp.condG ?_) | simp (disch := omega) only [↓RP, RQ, TS, TR, ↓reduceIte, Nat.reduceEqDiff, Nat.reduceLT, Nat.reduceLeDiff, Int.reduceLT, Int.reduceLE, Int.reduceEq, Int.reduceAdd, Int.reduceSub, Int.reduceNeg, Int.reduceToNat, Nat.reduceAdd, Nat.reduceMul, Nat.reduceSub, reduceCtorEq, RC, hn, g1, g5, g8]
          refine ⟨out, ov, hT, .inr ⟨by omega, fun i hi hr => hx i (by omega) ((hW.rdy hi).2 hr), hS.forget⟩⟩
      · have ho := hS.rd 0 rfl
        repeat first | (with_reducible first | refine Wp.seq ?_ | refine Wp.reg ?_ | refine Wp.block ?_ | refine Wp.skip ?_ | refine Wp.ret ?_ | refine Wp.exit ?_ | refine Wp.label ?_ | refine Wp.condG ?_) | simp (disch := omega) only [↓RP, RQ, TS, TR, ↓reduceIte, Nat.reduceEqDiff, Nat.reduceLT, Nat.reduceLeDiff, Int.reduceLT, Int.reduceLE, Int.reduceEq, Int.reduceAdd, Int.reduceSub, Int.reduceNeg, Int.reduceToNat, Nat.reduceAdd, Nat.reduceMul, Nat.reduceSub, reduceCtorEq, RC, hn, g1, g5, g8, ho.noTuple]
        exact ⟨out, ov, hT, .inl ⟨by omega, rfl, hS.sub (by simp)⟩⟩
end Go.Ds
/-
  Contracts: Needed.
-/
namespace Go.Ds
open Go.Proofs Go.Plain
variable {H : Heap}

open Classical in
noncomputable def impB (es : List (Nat × Nat)) (k j : Nat) : Bool := decide (impP es k j)
theorem impB_iff (es : List (Nat × Nat)) (k j : Nat) : impB es k j = true ↔ impP es k j := by
  unfold impB
  exact @decide_eq_true_iff _ (Classical.propDecidable _)
theorem impB_zero (es : List (Nat × Nat)) (k : Nat) : impB es k 0 = false := by
  cases h : impB es k 0 with
  | false => rfl
  | true => obtain ⟨_, h, _⟩ := (impB_iff es k 0).1 h; exact absurd h (Nat.not_lt_zero _)
theorem impB_skip (es : List (Nat × Nat)) (k j : Nat) (h : (es.getD j (0, 0)).1 ≠ (es.getD k (0, 0)).1) : impB es k (j + 1) = impB es k j := by
  rw [Bool.eq_iff_iff, impB_iff, impB_iff, impP_succ]
  exact ⟨fun hh => hh.resolve_right fun h2 => h h2.1, .inl⟩
theorem impB_step {N : Nat} {es : List (Nat × Nat)} {ds : Nat → List Int} {k j : Nat} (hval : ∀ e ∈ es, e.1 < N ∧ e.2 < N) (hds : ∀ i, i < N → IsD es N i (ds i)) (hk : k < es.length) (hj : j < es.length) (h : (es.getD j (0, 0)).1 = (es.getD k (0, 0)).1) :
    impB es k (j + 1) = (impB es k j || (if (es.getD j (0, 0)).2 = (es.getD k (0, 0)).2 then decide (j < k) else decide (0 ≤ (ds (es.getD j (0, 0)).2).getD (es.getD k (0, 0)).2 0))) := by
  have hmk := hval _ (getD_mem (0, 0) hk)
  have hmj := hval _ (getD_mem (0, 0) hj)
  have hd := hds _ hmj.2
  rw [Bool.eq_iff_iff, Bool.or_eq_true]
  rw [impB_iff, impB_iff, impP_succ]
  refine or_congr Iff.rfl ?_
  by_cases c : (es.getD j (0, 0)).2 = (es.getD k (0, 0)).2
  · rw [if_pos c, decide_eq_true_eq]
    exact ⟨fun h2 => h2.2.elim (fun h3 => (h3.1 c).elim) (·.2), fun h2 => ⟨h, .inr ⟨c, h2⟩⟩⟩
  · rw [if_neg c, decide_eq_true_eq]
    constructor
    · rintro ⟨_, ⟨_, n, hw⟩ | h3⟩
      · apply Classical.byContradiction
        intro hh
        exact (hd.neg _ hmk.2 (by omega)).2 _ hw
      · exact (c h3.1).elim
    · intro h2
      refine ⟨h, .inl ⟨c, ?_⟩⟩
      have h3 := (hd.pos _ hmk.2 h2).1
      cases hn : ((ds (es.getD j (0, 0)).2).getD (es.getD k (0, 0)).2 0).toNat with
      | zero => rw [hn] at h3; exact (c h3).elim
      | succ n => rw [hn] at h3; exact ⟨n, h3⟩

theorem needed_ok (N : Nat) (v : Value) (es : List (Nat × Nat)) (hv : Eg H v es) (hN : N ≤ 200) (he : es.length ≤ 1000) (hval : ∀ e ∈ es, e.1 < N ∧ e.2 < N) :
    Fn Try.prog 29 [.agg #[I N, v]] H fun r H' => ∃ out : List Nat, Top es N out ∧ ((out.length = N ∧ ∃ w, r = .tuple #[w, I 0] ∧ St Try.prog H H' [⟨w, 1, nts (ndd es es.length)⟩]) ∨
      (out.length < N ∧ (∀ i, i < N → ¬ rdy es out i) ∧ r = .tuple #[.slice none 0 0, I 22] ∧ St Try.prog H H' [])) := by
  have hrl : (List.range N).length = N := List.length_range
  refine Fn.of_wp (fn := Try.f29) rfl rfl (by kernel_rfl) fun l hl => ?_
  have hn : l.length = 78 := by rw [hl]; rfl
  have g0 : get l 0 = .agg #[I N, v] := by rw [hl]; rfl
  clear hl
  repeat first | (with_reducible first | refine Wp.seq ?_ | refine Wp.reg ?_ | refine Wp.block ?_ | refine Wp.skip ?_ | refine Wp.ret ?_ | refine Wp.exit ?_ | refine Wp.label ?_ | refine Wp.condG ?_) | simp (disch := omega) only [↓RP, RQ, TS, TR, ↓reduceIte, Nat.reduceEqDiff, Nat.reduceLT, Nat.reduceLeDiff, Int.reduceLT, Int.reduceLE, Int.reduceEq, Int.reduceAdd, Int.reduceSub, Int.reduceNeg, Int.reduceToNat, Nat.reduceAdd, Nat.reduceMul, Nat.reduceSub, reduceCtorEq, RC, hn, g0]
  refine (St.refl _ H).eNew 2 [I N, v] rfl rfl (by simp [hv.one]; rfl) tS27 fun A H1 hS => ?_
  repeat first | (with_reducible first | refine Wp.seq ?_ | refine Wp.reg ?_ | refine Wp.block ?_ | refine Wp.skip ?_ | refine Wp.ret ?_ | refine Wp.exit ?_ | refine Wp.label ?_ | refine Wp.condG ?_) | simp (disch := omega) only [↓RP, RQ, TS, TR, ↓reduceIte, Nat.reduceEqDiff, Nat.reduceLT, Nat.reduceLeDiff, Int.reduceLT, Int.reduceLE, Int.reduceEq, Int.reduceAdd, Int.reduceSub, Int.reduceNeg, Int.reduceToNat, Nat.reduceAdd, Nat.reduceMul, Nat.reduceSub, reduceCtorEq, RC, hn, g0, hS.ldA 0 rfl]
  refine callFW_of (order_ok N v es (hS.base hv) hN he hval) ?_
  rintro r H2 ⟨out, w, hT, ⟨hoN, rfl, hS2⟩ | ⟨hlt, hst, rfl, hS2⟩⟩
  · have hS := (hS.trans hS2).sub (os' := [⟨ptr A 0 2, 0, [I N, v]⟩]) (by simp)
    repeat first | (with_reducible first | refine Wp.seq ?_ | refine Wp.reg ?_ | refine Wp.block ?_ | refine Wp.skip ?_ | refine Wp.ret ?_ | refine Wp.exit ?_ | refine Wp.label ?_ | refine Wp.condG ?_) | simp (disch := omega) only [↓RP, RQ, TS, TR, ↓reduceIte, Nat.reduceEqDiff, Nat.reduceLT, Nat.reduceLeDiff, Int.reduceLT, Int.reduceLE, Int.reduceEq, Int.reduceAdd, Int.reduceSub, Int.reduceNeg, Int.reduceToNat, Nat.reduceAdd, Nat.reduceMul, Nat.reduceSub, reduceCtorEq, RC, hn, g0, hS.ldA 0 rfl]
    refine callFW_of (reached_ok N v es (hS.base hv) hN he hval) ?_
    rintro wr H4 ⟨ws, ds, hds, hS2⟩
    have hS := hS.trans hS2
    simp only [List.nil_append, List.cons_append, List.append_nil, List.set_cons_zero, List.set_cons_succ, setMany_cons, setMany_nil, Nat.zero_add, Nat.mul_one, Nat.add_zero] at hS
    repeat first | (with_reducible first | refine Wp.seq ?_ | refine Wp.reg ?_ | refine Wp.block ?_ | refine Wp.skip ?_ | refine Wp.ret ?_ | refine Wp.exit ?_ | refine Wp.label ?_ | refine Wp.condG ?_) | simp (disch := omega) only [↓RP, RQ, TS, TR, ↓reduceIte, Nat.reduceEqDiff, Nat.reduceLT, Nat.reduceLeDiff, Int.reduceLT, Int.reduceLE, Int.reduceEq, Int.reduceAdd, Int.reduceSub, Int.reduceNeg, Int.reduceToNat, Nat.reduceAdd, Nat.reduceMul, Nat.reduceSub, reduceCtorEq, RC, hn, g0, tZ71]
    refine hS.eNew 1 [.slice none 0 0] rfl rfl rfl tS71 fun B H5 hS => ?_
    have hS := hS.front
    have hw := (hS.rd 2 rfl).cells
    repeat first | (with_reducible first | refine Wp.seq ?_ | refine Wp.reg ?_ | refine Wp.block ?_ | refine Wp.skip ?_ | refine Wp.ret ?_ | refine Wp.exit ?_ | refine Wp.label ?_ | refine Wp.condG ?_) | simp (disch := omega) only [↓RP, RQ, TS, TR, ↓reduceIte, Nat.reduceEqDiff, Nat.reduceLT, Nat.reduceLeDiff, Int.reduceLT, Int.reduceLE, Int.reduceEq, Int.reduceAdd, Int.reduceSub, Int.reduceNeg, Int.reduceToNat, Nat.reduceAdd, Nat.reduceMul, Nat.reduceSub, reduceCtorEq, RC, hn, g0]
    refine hS.eStore 0 rfl [wr] (by rw [hw.1]) (by simp [hw.2.1]) tS71 (by simp) fun H6 hS => ?_
    have hS := (hS.nil 0).front
    simp only [List.nil_append, List.cons_append, List.append_nil, List.set_cons_zero, List.set_cons_succ, setMany_cons, setMany_nil, Nat.zero_add, Nat.mul_one, Nat.add_zero] at hS
    have hv1 : Sl2 H6 v _ _ es := hS.base hv
    repeat first | (with_reducible first | refine Wp.seq ?_ | refine Wp.reg ?_ | refine Wp.block ?_ | refine Wp.skip ?_ | refine Wp.ret ?_ | refine Wp.exit ?_ | refine Wp.label ?_ | refine Wp.condG ?_) | simp (disch := omega) only [↓RP, RQ, TS, TR, ↓reduceIte, Nat.reduceEqDiff, Nat.reduceLT, Nat.reduceLeDiff, Int.reduceLT, Int.reduceLE, Int.reduceEq, Int.reduceAdd, Int.reduceSub, Int.reduceNeg, Int.reduceToNat, Nat.reduceAdd, Nat.reduceMul, Nat.reduceSub, reduceCtorEq, RC, hn, g0, hS.ld 2 rfl, hv1.len]
    refine Wp.loopN (fun n l H' => l.length = 78 ∧ get l 1 = ptr A 0 2 ∧ get l 6 = ptr B 0 1 ∧ get l 24 = v ∧ get l 25 = I es.length ∧ ∃ (k : Nat) (ov : Value), n + k = es.length ∧ get l 26 = I k ∧ get l 7 = ov ∧
      St Try.prog H H' (⟨ov, 1, nts (ndd es k)⟩ :: ⟨ptr B 0 1, 0, [wr]⟩ :: ⟨ptr A 0 2, 0, [I N, v]⟩ :: ⟨wr, 1, (List.range N).map ws⟩ :: innerB N ws fun i => rb (ds i))) es.length ?_ ?_
    · repeat first | (with_reducible first | refine Wp.seq ?_ | refine Wp.reg ?_ | refine Wp.block ?_ | refine Wp.skip ?_ | refine Wp.ret ?_ | refine Wp.exit ?_ | refine Wp.label ?_ | refine Wp.condG ?_) | simp (disch := omega) only [↓RP, RQ, TS, TR, ↓reduceIte, Nat.reduceEqDiff, Nat.reduceLT, Nat.reduceLeDiff, Int.reduceLT, Int.reduceLE, Int.reduceEq, Int.reduceAdd, Int.reduceSub, Int.reduceNeg, Int.reduceToNat, Nat.reduceAdd, Nat.reduceMul, Nat.reduceSub, reduceCtorEq, RC, hn, g0]
      exact ⟨0, _, rfl, rfl, rfl, hS⟩
    clear hS hS2 hn g0 hw hv1
    rintro n l H' ⟨hn, g1, g6, g24, g25, k, ov, hk, g26, g7, hS⟩
    have hv1 : Sl2 H' v _ _ es := hS.base hv
    repeat first | (with_reducible first | refine Wp.seq ?_ | refine Wp.reg ?_ | refine Wp.block ?_ | refine Wp.skip ?_ | refine Wp.ret ?_ | refine Wp.exit ?_ | refine Wp.label ?_ | refine Wp.condG ?_) | simp (disch := omega) only [↓RP, RQ, TS, TR, ↓reduceIte, Nat.reduceEqDiff, Nat.reduceLT, Nat.reduceLeDiff, Int.reduceLT, Int.reduceLE, Int.reduceEq, Int.reduceAdd, Int.reduceSub, Int.reduceNeg, Int.reduceToNat, Nat.reduceAdd, Nat.reduceMul, Nat.reduceSub, reduceCtorEq, RC, hn, g1, g6, g24, g25, g26, g7]
    refine condW_split (fun h => ?_) (fun h => ?_)
    · have hkl : k < es.length := by omega
      have hmk := hval _ (getD_mem (0, 0) hkl)
      repeat first | (with_reducible first | refine Wp.seq ?_ | refine Wp.reg ?_ | refine Wp.block ?_ | refine Wp.skip ?_ | refine Wp.ret ?_ | refine Wp.exit ?_ | refine Wp.label ?_ | refine Wp.condG ?_) | simp (disch := omega) only [↓RP, RQ, TS, TR, ↓reduceIte, Nat.reduceEqDiff, Nat.reduceLT, Nat.reduceLeDiff, Int.reduceLT, Int.reduceLE, Int.reduceEq, Int.reduceAdd, Int.reduceSub, Int.reduceNeg, Int.reduceToNat, Nat.reduceAdd, Nat.reduceMul, Nat.reduceSub, reduceCtorEq, RC, hn, g1, g6, g24, g25, g26, g7, hv1.idx, hv1.ldA (0, 0)]
      refine hS.eNew 1 [I 0] rfl rfl rfl tS3 fun C H2 hS => ?_
      have hS := hS.front
      repeat first | (with_reducible first | refine Wp.seq ?_ | refine Wp.reg ?_ | refine Wp.block ?_ | refine Wp.skip ?_ | refine Wp.ret ?_ | refine Wp.exit ?_ | refine Wp.label ?_ | refine Wp.condG ?_) | simp (disch := omega) only [↓RP, RQ, TS, TR, ↓reduceIte, Nat.reduceEqDiff, Nat.reduceLT, Nat.reduceLeDiff, Int.reduceLT, Int.reduceLE, Int.reduceEq, Int.reduceAdd, Int.reduceSub, Int.reduceNeg, Int.reduceToNat, Nat.reduceAdd, Nat.reduceMul, Nat.reduceSub, reduceCtorEq, RC, hn, g1, g6, g24, g25, g26, g7]
      refine hS.eNew 2 [I 0, I 0] rfl rfl rfl tS48 fun E H3 hS => ?_
      have hS := hS.front
      repeat first | (with_reducible first | refine Wp.seq ?_ | refine Wp.reg ?_ | refine Wp.block ?_ | refine Wp.skip ?_ | refine Wp.ret ?_ | refine Wp.exit ?_ | refine Wp.label ?_ | refine Wp.condG ?_) | simp (disch := omega) only [↓RP, RQ, TS, TR, ↓reduceIte, Nat.reduceEqDiff, Nat.reduceLT, Nat.reduceLeDiff, Int.reduceLT, Int.reduceLE, Int.reduceEq, Int.reduceAdd, Int.reduceSub, Int.reduceNeg, Int.reduceToNat, Nat.reduceAdd, Nat.reduceMul, Nat.reduceSub, reduceCtorEq, RC, hn, g1, g6, g24, g25, g26, g7]
      refine hS.eStore 1 rfl [_] rfl rfl tS3 (by simp) fun H4 hS => ?_
      simp only [List.nil_append, List.cons_append, List.append_nil, List.set_cons_zero, List.set_cons_succ, setMany_cons, setMany_nil, Nat.zero_add, Nat.mul_one, Nat.add_zero] at hS
      repeat first | (with_reducible first | refine Wp.seq ?_ | refine Wp.reg ?_ | refine Wp.block ?_ | refine Wp.skip ?_ | refine Wp.ret ?_ | refine Wp.exit ?_ | refine Wp.label ?_ | refine Wp.condG ?_) | simp (disch := omega) only [↓RP, RQ, TS, TR, ↓reduceIte, Nat.reduceEqDiff, Nat.reduceLT, Nat.reduceLeDiff, Int.reduceLT, Int.reduceLE, Int.reduceEq, Int.reduceAdd, Int.reduceSub, Int.reduceNeg, Int.reduceToNat, Nat.reduceAdd, Nat.reduceMul, Nat.reduceSub, reduceCtorEq, RC, hn, g1, g6, g24, g25, g26, g7]
      refine hS.eStore 0 rfl [_, _] rfl rfl tS48 (by simp) fun H5 hS => ?_
      simp only [List.nil_append, List.cons_append, List.append_nil, List.set_cons_zero, List.set_cons_succ, setMany_cons, setMany_nil, Nat.zero_add, Nat.mul_one, Nat.add_zero] at hS
      repeat first | (with_reducible first | refine Wp.seq ?_ | refine Wp.reg ?_ | refine Wp.block ?_ | refine Wp.skip ?_ | refine Wp.ret ?_ | refine Wp.exit ?_ | refine Wp.label ?_ | refine Wp.condG ?_) | simp (disch := omega) only [↓RP, RQ, TS, TR, ↓reduceIte, Nat.reduceEqDiff, Nat.reduceLT, Nat.reduceLeDiff, Int.reduceLT, Int.reduceLE, Int.reduceEq, Int.reduceAdd, Int.reduceSub, Int.reduceNeg, Int.reduceToNat, Nat.reduceAdd, Nat.reduceMul, Nat.reduceSub, reduceCtorEq, RC, hn, g1, g6, g24, g25, g26, g7]
      refine hS.eNew 1 [.bool false] rfl rfl rfl tS4 fun D H6 hS => ?_
      have hS := hS.front
      repeat first | (with_reducible first | refine Wp.seq ?_ | refine Wp.reg ?_ | refine Wp.block ?_ | refine Wp.skip ?_ | refine Wp.ret ?_ | refine Wp.exit ?_ | refine Wp.label ?_ | refine Wp.condG ?_) | simp (disch := omega) only [↓RP, RQ, TS, TR, ↓reduceIte, Nat.reduceEqDiff, Nat.reduceLT, Nat.reduceLeDiff, Int.reduceLT, Int.reduceLE, Int.reduceEq, Int.reduceAdd, Int.reduceSub, Int.reduceNeg, Int.reduceToNat, Nat.reduceAdd, Nat.reduceMul, Nat.reduceSub, reduceCtorEq, RC, hn, g1, g6, g24, g25, g26, g7]
      refine hS.eStore 0 rfl [_] rfl rfl tS4 (by simp) fun H7 hS => ?_
      simp only [List.nil_append, List.cons_append, List.append_nil, List.set_cons_zero, List.set_cons_succ, setMany_cons, setMany_nil, Nat.zero_add, Nat.mul_one, Nat.add_zero] at hS
      repeat first | (with_reducible first | refine Wp.seq ?_ | refine Wp.reg ?_ | refine Wp.block ?_ | refine Wp.skip ?_ | refine Wp.ret ?_ | refine Wp.exit ?_ | refine Wp.label ?_ | refine Wp.condG ?_) | simp (disch := omega) only [↓RP, RQ, TS, TR, ↓reduceIte, Nat.reduceEqDiff, Nat.reduceLT, Nat.reduceLeDiff, Int.reduceLT, Int.reduceLE, Int.reduceEq, Int.reduceAdd, Int.reduceSub, Int.reduceNeg, Int.reduceToNat, Nat.reduceAdd, Nat.reduceMul, Nat.reduceSub, reduceCtorEq, RC, hn, g1, g6, g24, g25, g26, g7, hS.ldA 5 rfl, hS.ld 1 rfl]
      refine callFW_of (out1_ok N (es.getD k (0, 0)).1 v hv.one) ?_
      rintro r H8 ⟨Ag, An, rfl, hS2⟩
      have hS := (hS.trans hS2).perm List.perm_append_comm
      simp only [List.nil_append, List.cons_append, List.append_nil, List.set_cons_zero, List.set_cons_succ, setMany_cons, setMany_nil, Nat.zero_add, Nat.mul_one, Nat.add_zero] at hS
      repeat first | (with_reducible first | refine Wp.seq ?_ | refine Wp.reg ?_ | refine Wp.block ?_ | refine Wp.skip ?_ | refine Wp.ret ?_ | refine Wp.exit ?_ | refine Wp.label ?_ | refine Wp.condG ?_) | simp (disch := omega) only [↓RP, RQ, TS, TR, ↓reduceIte, Nat.reduceEqDiff, Nat.reduceLT, Nat.reduceLeDiff, Int.reduceLT, Int.reduceLE, Int.reduceEq, Int.reduceAdd, Int.reduceSub, Int.reduceNeg, Int.reduceToNat, Nat.reduceAdd, Nat.reduceMul, Nat.reduceSub, reduceCtorEq, RC, hn, g1, g6, g24, g25, g26, g7]
      refine Wp.slots fun l' hl' => ?_
      have hn' : l'.length = 78 := by rw [hl']; simp (disch := omega) only [↓RP, RQ, TS, TR, ↓reduceIte, Nat.reduceEqDiff, Nat.reduceLT, Nat.reduceLeDiff, Int.reduceLT, Int.reduceLE, Int.reduceEq, Int.reduceAdd, Int.reduceSub, Int.reduceNeg, Int.reduceToNat, Nat.reduceAdd, Nat.reduceMul, Nat.reduceSub, reduceCtorEq, RC, hn]
      have g1' : get l' 1 = ptr A 0 2 := by rw [hl']; simp (disch := omega) only [↓RP, RQ, TS, TR, ↓reduceIte, Nat.reduceEqDiff, Nat.reduceLT, Nat.reduceLeDiff, Int.reduceLT, Int.reduceLE, Int.reduceEq, Int.reduceAdd, Int.reduceSub, Int.reduceNeg, Int.reduceToNat, Nat.reduceAdd, Nat.reduceMul, Nat.reduceSub, reduceCtorEq, RC, hn, g1]
      have g6' : get l' 6 = ptr B 0 1 := by rw [hl']; simp (disch := omega) only [↓RP, RQ, TS, TR, ↓reduceIte, Nat.reduceEqDiff, Nat.reduceLT, Nat.reduceLeDiff, Int.reduceLT, Int.reduceLE, Int.reduceEq, Int.reduceAdd, Int.reduceSub, Int.reduceNeg, Int.reduceToNat, Nat.reduceAdd, Nat.reduceMul, Nat.reduceSub, reduceCtorEq, RC, hn, g6]
      have g7' : get l' 7 = ov := by rw [hl']; simp (disch := omega) only [↓RP, RQ, TS, TR, ↓reduceIte, Nat.reduceEqDiff, Nat.reduceLT, Nat.reduceLeDiff, Int.reduceLT, Int.reduceLE, Int.reduceEq, Int.reduceAdd, Int.reduceSub, Int.reduceNeg, Int.reduceToNat, Nat.reduceAdd, Nat.reduceMul, Nat.reduceSub, reduceCtorEq, RC, hn, g7]
      have g8' : get l' 8 = ptr C 0 1 := by rw [hl']; simp (disch := omega) only [↓RP, RQ, TS, TR, ↓reduceIte, Nat.reduceEqDiff, Nat.reduceLT, Nat.reduceLeDiff, Int.reduceLT, Int.reduceLE, Int.reduceEq, Int.reduceAdd, Int.reduceSub, Int.reduceNeg, Int.reduceToNat, Nat.reduceAdd, Nat.reduceMul, Nat.reduceSub, reduceCtorEq, RC, hn]
      have g9' : get l' 9 = ptr E 0 2 := by rw [hl']; simp (disch := omega) only [↓RP, RQ, TS, TR, ↓reduceIte, Nat.reduceEqDiff, Nat.reduceLT, Nat.reduceLeDiff, Int.reduceLT, Int.reduceLE, Int.reduceEq, Int.reduceAdd, Int.reduceSub, Int.reduceNeg, Int.reduceToNat, Nat.reduceAdd, Nat.reduceMul, Nat.reduceSub, reduceCtorEq, RC, hn]
      have g10' : get l' 10 = ptr D 0 1 := by rw [hl']; simp (disch := omega) only [↓RP, RQ, TS, TR, ↓reduceIte, Nat.reduceEqDiff, Nat.reduceLT, Nat.reduceLeDiff, Int.reduceLT, Int.reduceLE, Int.reduceEq, Int.reduceAdd, Int.reduceSub, Int.reduceNeg, Int.reduceToNat, Nat.reduceAdd, Nat.reduceMul, Nat.reduceSub, reduceCtorEq, RC, hn]
      have g24' : get l' 24 = v := by rw [hl']; simp (disch := omega) only [↓RP, RQ, TS, TR, ↓reduceIte, Nat.reduceEqDiff, Nat.reduceLT, Nat.reduceLeDiff, Int.reduceLT, Int.reduceLE, Int.reduceEq, Int.reduceAdd, Int.reduceSub, Int.reduceNeg, Int.reduceToNat, Nat.reduceAdd, Nat.reduceMul, Nat.reduceSub, reduceCtorEq, RC, hn, g24]
      have g25' : get l' 25 = I es.length := by rw [hl']; simp (disch := omega) only [↓RP, RQ, TS, TR, ↓reduceIte, Nat.reduceEqDiff, Nat.reduceLT, Nat.reduceLeDiff, Int.reduceLT, Int.reduceLE, Int.reduceEq, Int.reduceAdd, Int.reduceSub, Int.reduceNeg, Int.reduceToNat, Nat.reduceAdd, Nat.reduceMul, Nat.reduceSub, reduceCtorEq, RC, hn, g25]
      have g26' : get l' 26 = I k := by rw [hl']; simp (disch := omega) only [↓RP, RQ, TS, TR, ↓reduceIte, Nat.reduceEqDiff, Nat.reduceLT, Nat.reduceLeDiff, Int.reduceLT, Int.reduceLE, Int.reduceEq, Int.reduceAdd, Int.reduceSub, Int.reduceNeg, Int.reduceToNat, Nat.reduceAdd, Nat.reduceMul, Nat.reduceSub, reduceCtorEq, RC, hn, g26]
      have g34' : get l' 34 = .func (.func 50) #[] [ptr Ag 0 2, ptr An 0 1].toArray := by rw [hl']; simp (disch := omega) only [↓RP, RQ, TS, TR, ↓reduceIte, Nat.reduceEqDiff, Nat.reduceLT, Nat.reduceLeDiff, Int.reduceLT, Int.reduceLE, Int.reduceEq, Int.reduceAdd, Int.reduceSub, Int.reduceNeg, Int.reduceToNat, Nat.reduceAdd, Nat.reduceMul, Nat.reduceSub, reduceCtorEq, RC, hn]
      clear hl' hn g1 g6 g7 g24 g25 g26 hS2
      refine Wp.rangeR g34' fun r hst hpd htm hps has hbd => ?_
      have hreq : ({ r with state := .ready, pending := none } : Loop) = r := by
        cases r
        simp only at hst hpd
        subst hst hpd
        rfl
      have hLp := Lp.enter hS r
      generalize H8.cons (.loop r) = Hc at hLp ⊢
      generalize H8.length = L at hLp ⊢
      clear hS
      rw [show [Value.bool false] = [Value.bool (impB es k 0)] from by rw [impB_zero]] at hLp
      refine (out_ok N (es.getD k (0, 0)).1 v es he Ag An (.func (.yield L) #[] #[])
        (fun j H1 => Lp Try.prog H L r H1 (⟨ptr Ag 0 2, 0, [I N, v]⟩ :: ⟨ptr An 0 1, 0, [I (es.getD k (0, 0)).1]⟩ :: ⟨ptr D 0 1, 0, [.bool (impB es k j)]⟩ :: ⟨ptr E 0 2, 0, [I (es.getD k (0, 0)).1, I (es.getD k (0, 0)).2]⟩ :: ⟨ptr C 0 1, 0, [I k]⟩ :: ⟨ov, 1, nts (ndd es k)⟩ :: ⟨ptr B 0 1, 0, [wr]⟩ :: ⟨ptr A 0 2, 0, [I N, v]⟩ :: ⟨wr, 1, (List.range N).map ws⟩ :: innerB N ws fun i => rb (ds i)))
        (fun _ => False) hLp ?_ ?_ ?_ ?_).mono ?_
      · rintro j H1 h1
        exact ⟨h1.st.var 0 rfl, h1.st.var 1 rfl, h1.st.base hv⟩
      · rintro j H1 H2 h2 h3
        simpa using h2.ext h3
      · rintro j H1 hj hne h2
        rw [impB_skip es k j hne]
        exact h2
      · rintro j H1 hj hja h1
        have hme := getD_mem (0, 0) hj
        have hm := hval _ hme
        have hdl := (hds _ hm.2).len
        refine callW_yield h1.get (by rw [hps]; rfl) hst ?_
        refine Wp.of_eq (l := put l' (some 35) (I j)) has (by rw [hps, htm]; exact (setL_eq ..).symm) ?_
        repeat first | (with_reducible first | refine Wp.seq ?_ | refine Wp.reg ?_ | refine Wp.block ?_ | refine Wp.skip ?_ | refine Wp.ret ?_ | refine Wp.exit ?_ | refine Wp.label ?_ | refine Wp.condG ?_) | simp (disch := omega) only [↓RP, RQ, TS, TR, ↓reduceIte, Nat.reduceEqDiff, Nat.reduceLT, Nat.reduceLeDiff, Int.reduceLT, Int.reduceLE, Int.reduceEq, Int.reduceAdd, Int.reduceSub, Int.reduceNeg, Int.reduceToNat, Nat.reduceAdd, Nat.reduceMul, Nat.reduceSub, reduceCtorEq, RC, hn']
        refine ⟨r, h1.get, hst, ?_⟩
        have hB := h1.set (fun h => h) { r with state := .busy }
        generalize hset H1 L (.loop { r with state := .busy }) = Hb at hB ⊢
        refine Wp.of_eq hbd rfl ?_
        have hv1 : Sl2 Hb v _ _ es := hB.st.base hv
        obtain ⟨B0, hS, hback⟩ := hB.cut
        have ho : Sl1 Hb wr ws (List.range N) := hS.rd 8 rfl
        have hrow : Sl1 Hb (ws (es.getD j (0, 0)).2) (fun b : Bool => .bool b) (rb (ds (es.getD j (0, 0)).2)) := hS.rd ((es.getD j (0, 0)).2 + 9) (innerB_get N ws _ _ hm.2)
        have hrbl := rb_length (ds (es.getD j (0, 0)).2)
        have hstep := impB_step hval hds (by omega) hj hja
        have hfin : ∀ H2, St Try.prog B0 H2 (⟨ptr Ag 0 2, 0, [I N, v]⟩ :: ⟨ptr An 0 1, 0, [I (es.getD k (0, 0)).1]⟩ :: ⟨ptr D 0 1, 0, [.bool (impB es k (j + 1))]⟩ :: ⟨ptr E 0 2, 0, [I (es.getD k (0, 0)).1, I (es.getD k (0, 0)).2]⟩ :: ⟨ptr C 0 1, 0, [I k]⟩ :: ⟨ov, 1, nts (ndd es k)⟩ :: ⟨ptr B 0 1, 0, [wr]⟩ :: ⟨ptr A 0 2, 0, [I N, v]⟩ :: ⟨wr, 1, (List.range N).map ws⟩ :: innerB N ws fun i => rb (ds i)) → Lp Try.prog H L { r with state := .busy } H2 (⟨ptr Ag 0 2, 0, [I N, v]⟩ :: ⟨ptr An 0 1, 0, [I (es.getD k (0, 0)).1]⟩ :: ⟨ptr D 0 1, 0, [.bool (impB es k (j + 1))]⟩ :: ⟨ptr E 0 2, 0, [I (es.getD k (0, 0)).1, I (es.getD k (0, 0)).2]⟩ :: ⟨ptr C 0 1, 0, [I k]⟩ :: ⟨ov, 1, nts (ndd es k)⟩ :: ⟨ptr B 0 1, 0, [wr]⟩ :: ⟨ptr A 0 2, 0, [I N, v]⟩ :: ⟨wr, 1, (List.range N).map ws⟩ :: innerB N ws fun i => rb (ds i)) := fun H2 h2 => hback _ _ h2
        have hend : ∀ H2, Lp Try.prog H L { r with state := .busy } H2 (⟨ptr Ag 0 2, 0, [I N, v]⟩ :: ⟨ptr An 0 1, 0, [I (es.getD k (0, 0)).1]⟩ :: ⟨ptr D 0 1, 0, [.bool (impB es k (j + 1))]⟩ :: ⟨ptr E 0 2, 0, [I (es.getD k (0, 0)).1, I (es.getD k (0, 0)).2]⟩ :: ⟨ptr C 0 1, 0, [I k]⟩ :: ⟨ov, 1, nts (ndd es k)⟩ :: ⟨ptr B 0 1, 0, [wr]⟩ :: ⟨ptr A 0 2, 0, [I N, v]⟩ :: ⟨wr, 1, (List.range N).map ws⟩ :: innerB N ws fun i => rb (ds i)) → Lp Try.prog H L r (hset H2 L (.loop { { r with state := .busy } with state := .ready, pending := none })) (⟨ptr Ag 0 2, 0, [I N, v]⟩ :: ⟨ptr An 0 1, 0, [I (es.getD k (0, 0)).1]⟩ :: ⟨ptr D 0 1, 0, [.bool (impB es k (j + 1))]⟩ :: ⟨ptr E 0 2, 0, [I (es.getD k (0, 0)).1, I (es.getD k (0, 0)).2]⟩ :: ⟨ptr C 0 1, 0, [I k]⟩ :: ⟨ov, 1, nts (ndd es k)⟩ :: ⟨ptr B 0 1, 0, [wr]⟩ :: ⟨ptr A 0 2, 0, [I N, v]⟩ :: ⟨wr, 1, (List.range N).map ws⟩ :: innerB N ws fun i => rb (ds i)) := fun H2 h2 => by
          have := h2.set (fun h => h) r
          rw [← hreq] at this
          exact hreq ▸ this
        generalize impB es k (j + 1) = b1 at hstep hfin hend
        generalize impB es k j = b0 at hstep hS
        by_cases c : (es.getD j (0, 0)).2 = (es.getD k (0, 0)).2
        · rw [if_pos c] at hstep
          have d1 : decide (¬ ((es.getD j (0, 0)).2 : Int) = ((es.getD k (0, 0)).2 : Int)) = false := decide_eq_false (by omega)
          have d2 : decide (((es.getD j (0, 0)).2 : Int) = ((es.getD k (0, 0)).2 : Int)) = true := decide_eq_true (by omega)
          cases b0 with
          | true =>
            obtain rfl : b1 = true := by simpa using hstep
            repeat first | (with_reducible first | refine Wp.seq ?_ | refine Wp.reg ?_ | refine Wp.block ?_ | refine Wp.skip ?_ | refine Wp.ret ?_ | refine Wp.exit ?_ | refine Wp.label ?_ | refine Wp.condG ?_) | with_reducible refine Wp.drw hmix (by kernel_rfl) ?_ | simp (disch := omega) only [↓RP, RQ, TS, TR, ↓reduceIte, Nat.reduceEqDiff, Nat.reduceLT, Nat.reduceLeDiff, Int.reduceLT, Int.reduceLE, Int.reduceEq, Int.reduceAdd, Int.reduceSub, Int.reduceNeg, Int.reduceToNat, Nat.reduceAdd, Nat.reduceMul, Nat.reduceSub, reduceCtorEq, RC, hn', g1', g6', g8', g9', g10', hv1.idx, hv1.fld, hv1.ld1 (0, 0), ho.idx, ho.ld 0, getD_range, hrow.idx, hrow.ld false, rb_at, hS.ld 2 rfl, hS.ld 3 rfl, hS.ld 4 rfl, hS.ld 6 rfl, hS.ld 7 rfl, d1, d2]
            refine hS.eStore 2 rfl [_] rfl rfl tS4 (by simp) fun H3 hS => ?_
            simp only [List.nil_append, List.cons_append, List.append_nil, List.set_cons_zero, List.set_cons_succ, setMany_cons, setMany_nil, Nat.zero_add, Nat.mul_one, Nat.add_zero] at hS
            repeat first | (with_reducible first | refine Wp.seq ?_ | refine Wp.reg ?_ | refine Wp.block ?_ | refine Wp.skip ?_ | refine Wp.ret ?_ | refine Wp.exit ?_ | refine Wp.label ?_ | refine Wp.condG ?_) | simp (disch := omega) only [↓RP, RQ, TS, TR, ↓reduceIte, Nat.reduceEqDiff, Nat.reduceLT, Nat.reduceLeDiff, Int.reduceLT, Int.reduceLE, Int.reduceEq, Int.reduceAdd, Int.reduceSub, Int.reduceNeg, Int.reduceToNat, Nat.reduceAdd, Nat.reduceMul, Nat.reduceSub, reduceCtorEq, RC, hn', g1', g6', g8', g9', g10']
            have hB2 := hfin _ hS
            exact ⟨_, hB2.get, true, rfl, (fun _ => hend _ hB2), (fun h => by cases h)⟩
          | false =>
            have d3 : decide ((j : Int) < (k : Int)) = b1 := by rw [hstep, Bool.false_or]; congr 1; simp
            repeat first | (with_reducible first | refine Wp.seq ?_ | refine Wp.reg ?_ | refine Wp.block ?_ | refine Wp.skip ?_ | refine Wp.ret ?_ | refine Wp.exit ?_ | refine Wp.label ?_ | refine Wp.condG ?_) | with_reducible refine Wp.drw hmix (by kernel_rfl) ?_ | simp (disch := omega) only [↓RP, RQ, TS, TR, ↓reduceIte, Nat.reduceEqDiff, Nat.reduceLT, Nat.reduceLeDiff, Int.reduceLT, Int.reduceLE, Int.reduceEq, Int.reduceAdd, Int.reduceSub, Int.reduceNeg, Int.reduceToNat, Nat.reduceAdd, Nat.reduceMul, Nat.reduceSub, reduceCtorEq, RC, hn', g1', g6', g8', g9', g10', hv1.idx, hv1.fld, hv1.ld1 (0, 0), ho.idx, ho.ld 0, getD_range, hrow.idx, hrow.ld false, rb_at, hS.ld 2 rfl, hS.ld 3 rfl, hS.ld 4 rfl, hS.ld 6 rfl, hS.ld 7 rfl, d1, d2, d3]
            refine hS.eStore 2 rfl [_] rfl rfl tS4 (by simp) fun H3 hS => ?_
            simp only [List.nil_append, List.cons_append, List.append_nil, List.set_cons_zero, List.set_cons_succ, setMany_cons, setMany_nil, Nat.zero_add, Nat.mul_one, Nat.add_zero] at hS
            repeat first | (with_reducible first | refine Wp.seq ?_ | refine Wp.reg ?_ | refine Wp.block ?_ | refine Wp.skip ?_ | refine Wp.ret ?_ | refine Wp.exit ?_ | refine Wp.label ?_ | refine Wp.condG ?_) | simp (disch := omega) only [↓RP, RQ, TS, TR, ↓reduceIte, Nat.reduceEqDiff, Nat.reduceLT, Nat.reduceLeDiff, Int.reduceLT, Int.reduceLE, Int.reduceEq, Int.reduceAdd, Int.reduceSub, Int.reduceNeg, Int.reduceToNat, Nat.reduceAdd, Nat.reduceMul, Nat.reduceSub, reduceCtorEq, RC, hn', g1', g6', g8', g9', g10']
            have hB2 := hfin _ hS
            exact ⟨_, hB2.get, true, rfl, (fun _ => hend _ hB2), (fun h => by cases h)⟩
        · rw [if_neg c] at hstep
          have d1 : decide (¬ ((es.getD j (0, 0)).2 : Int) = ((es.getD k (0, 0)).2 : Int)) = true := decide_eq_true (by omega)
          have d2 : decide (((es.getD j (0, 0)).2 : Int) = ((es.getD k (0, 0)).2 : Int)) = false := decide_eq_false (by omega)
          cases b0 with
          | true =>
            obtain rfl : b1 = true := by simpa using hstep
            repeat first | (with_reducible first | refine Wp.seq ?_ | refine Wp.reg ?_ | refine Wp.block ?_ | refine Wp.skip ?_ | refine Wp.ret ?_ | refine Wp.exit ?_ | refine Wp.label ?_ | refine Wp.condG ?_) | with_reducible refine Wp.drw hmix (by kernel_rfl) ?_ | simp (disch := omega) only [↓RP, RQ, TS, TR, ↓reduceIte, Nat.reduceEqDiff, Nat.reduceLT, Nat.reduceLeDiff, Int.reduceLT, Int.reduceLE, Int.reduceEq, Int.reduceAdd, Int.reduceSub, Int.reduceNeg, Int.reduceToNat, Nat.reduceAdd, Nat.reduceMul, Nat.reduceSub, reduceCtorEq, RC, hn', g1', g6', g8', g9', g10', hv1.idx, hv1.fld, hv1.ld1 (0, 0), ho.idx, ho.ld 0, getD_range, hrow.idx, hrow.ld false, rb_at, hS.ld 2 rfl, hS.ld 3 rfl, hS.ld 4 rfl, hS.ld 6 rfl, hS.ld 7 rfl, d1, d2]
            refine hS.eStore 2 rfl [_] rfl rfl tS4 (by simp) fun H3 hS => ?_
            simp only [List.nil_append, List.cons_append, List.append_nil, List.set_cons_zero, List.set_cons_succ, setMany_cons, setMany_nil, Nat.zero_add, Nat.mul_one, Nat.add_zero] at hS
            repeat first | (with_reducible first | refine Wp.seq ?_ | refine Wp.reg ?_ | refine Wp.block ?_ | refine Wp.skip ?_ | refine Wp.ret ?_ | refine Wp.exit ?_ | refine Wp.label ?_ | refine Wp.condG ?_) | simp (disch := omega) only [↓RP, RQ, TS, TR, ↓reduceIte, Nat.reduceEqDiff, Nat.reduceLT, Nat.reduceLeDiff, Int.reduceLT, Int.reduceLE, Int.reduceEq, Int.reduceAdd, Int.reduceSub, Int.reduceNeg, Int.reduceToNat, Nat.reduceAdd, Nat.reduceMul, Nat.reduceSub, reduceCtorEq, RC, hn', g1', g6', g8', g9', g10']
            have hB2 := hfin _ hS
            exact ⟨_, hB2.get, true, rfl, (fun _ => hend _ hB2), (fun h => by cases h)⟩
          | false =>
            have d3 : decide (0 ≤ (ds (es.getD j (0, 0)).2).getD (es.getD k (0, 0)).2 0) = b1 := by rw [hstep, Bool.false_or]
            clear hstep
            cases b1 with
            | true =>
              repeat first | (with_reducible first | refine Wp.seq ?_ | refine Wp.reg ?_ | refine Wp.block ?_ | refine Wp.skip ?_ | refine Wp.ret ?_ | refine Wp.exit ?_ | refine Wp.label ?_ | refine Wp.condG ?_) | with_reducible refine Wp.drw hmix (by kernel_rfl) ?_ | simp (disch := omega) only [↓RP, RQ, TS, TR, ↓reduceIte, Nat.reduceEqDiff, Nat.reduceLT, Nat.reduceLeDiff, Int.reduceLT, Int.reduceLE, Int.reduceEq, Int.reduceAdd, Int.reduceSub, Int.reduceNeg, Int.reduceToNat, Nat.reduceAdd, Nat.reduceMul, Nat.reduceSub, reduceCtorEq, RC, hn', g1', g6', g8', g9', g10', hv1.idx, hv1.fld, hv1.ld1 (0, 0), ho.idx, ho.ld 0, getD_range, hrow.idx, hrow.ld false, rb_at, hS.ld 2 rfl, hS.ld 3 rfl, hS.ld 4 rfl, hS.ld 6 rfl, hS.ld 7 rfl, d1, d2, d3]
              refine hS.eStore 2 rfl [_] rfl rfl tS4 (by simp) fun H3 hS => ?_
              simp only [List.nil_append, List.cons_append, List.append_nil, List.set_cons_zero, List.set_cons_succ, setMany_cons, setMany_nil, Nat.zero_add, Nat.mul_one, Nat.add_zero] at hS
              repeat first | (with_reducible first | refine Wp.seq ?_ | refine Wp.reg ?_ | refine Wp.block ?_ | refine Wp.skip ?_ | refine Wp.ret ?_ | refine Wp.exit ?_ | refine Wp.label ?_ | refine Wp.condG ?_) | simp (disch := omega) only [↓RP, RQ, TS, TR, ↓reduceIte, Nat.reduceEqDiff, Nat.reduceLT, Nat.reduceLeDiff, Int.reduceLT, Int.reduceLE, Int.reduceEq, Int.reduceAdd, Int.reduceSub, Int.reduceNeg, Int.reduceToNat, Nat.reduceAdd, Nat.reduceMul, Nat.reduceSub, reduceCtorEq, RC, hn', g1', g6', g8', g9', g10']
              have hB2 := hfin _ hS
              exact ⟨_, hB2.get, true, rfl, (fun _ => hend _ hB2), (fun h => by cases h)⟩
            | false =>
              repeat first | (with_reducible first | refine Wp.seq ?_ | refine Wp.reg ?_ | refine Wp.block ?_ | refine Wp.skip ?_ | refine Wp.ret ?_ | refine Wp.exit ?_ | refine Wp.label ?_ | refine Wp.condG ?_) | with_reducible refine Wp.drw hmix (by kernel_rfl) ?_ | simp (disch := omega) only [↓RP, RQ, TS, TR, ↓reduceIte, Nat.reduceEqDiff, Nat.reduceLT, Nat.reduceLeDiff, Int.reduceLT, Int.reduceLE, Int.reduceEq, Int.reduceAdd, Int.reduceSub, Int.reduceNeg, Int.reduceToNat, Nat.reduceAdd, Nat.reduceMul, Nat.reduceSub, reduceCtorEq, RC, hn', g1', g6', g8', g9', g10', hv1.idx, hv1.fld, hv1.ld1 (0, 0), ho.idx, ho.ld 0, getD_range, hrow.idx, hrow.ld false, rb_at, hS.ld 2 rfl, hS.ld 3 rfl, hS.ld 4 rfl, hS.ld 6 rfl, hS.ld 7 rfl, d1, d2, d3]
              refine hS.eStore 2 rfl [_] rfl rfl tS4 (by simp) fun H3 hS => ?_
              simp only [List.nil_append, List.cons_append, List.append_nil, List.set_cons_zero, List.set_cons_succ, setMany_cons, setMany_nil, Nat.zero_add, Nat.mul_one, Nat.add_zero] at hS
              repeat first | (with_reducible first | refine Wp.seq ?_ | refine Wp.reg ?_ | refine Wp.block ?_ | refine Wp.skip ?_ | refine Wp.ret ?_ | refine Wp.exit ?_ | refine Wp.label ?_ | refine Wp.condG ?_) | simp (disch := omega) only [↓RP, RQ, TS, TR, ↓reduceIte, Nat.reduceEqDiff, Nat.reduceLT, Nat.reduceLeDiff, Int.reduceLT, Int.reduceLE, Int.reduceEq, Int.reduceAdd, Int.reduceSub, Int.reduceNeg, Int.reduceToNat, Nat.reduceAdd, Nat.reduceMul, Nat.reduceSub, reduceCtorEq, RC, hn', g1', g6', g8', g9', g10']
              have hB2 := hfin _ hS
              exact ⟨_, hB2.get, true, rfl, (fun _ => hend _ hB2), (fun h => by cases h)⟩
      · rintro _ H7 (h1 | hf)
        · refine ⟨_, h1.get, (by rw [hst]; intro h; cases h), (fun _ => ?_), (fun c hc => by rw [hpd] at hc; cases hc)⟩
          have hB := h1.set (fun h => h) { r with state := .exhausted }
          have hS := hB.st
          generalize hset H7 L (.loop { r with state := .exhausted }) = H8 at hS ⊢
          have hsucc := ndd_succ es k (impB es k es.length) (impB_iff es k es.length)
          have hle := ndd_le es k
          generalize impB es k es.length = b1 at hsucc hS
          cases b1 with
          | true =>
            repeat first | (with_reducible first | refine Wp.seq ?_ | refine Wp.reg ?_ | refine Wp.block ?_ | refine Wp.skip ?_ | refine Wp.ret ?_ | refine Wp.exit ?_ | refine Wp.label ?_ | refine Wp.condG ?_) | simp (disch := omega) only [↓RP, RQ, TS, TR, ↓reduceIte, Nat.reduceEqDiff, Nat.reduceLT, Nat.reduceLeDiff, Int.reduceLT, Int.reduceLE, Int.reduceEq, Int.reduceAdd, Int.reduceSub, Int.reduceNeg, Int.reduceToNat, Nat.reduceAdd, Nat.reduceMul, Nat.reduceSub, reduceCtorEq, RC, hn', g1', g6', g7', g8', g9', g10', g24', g25', g26', hS.ld 2 rfl, wrap_fit]
            refine ⟨n - 1, by omega, k + 1, ov, by omega, rfl, rfl, ?_⟩
            rw [hsucc, if_pos rfl, List.append_nil]
            exact hS.sub (.cons _ (.cons _ (.cons _ (.cons _ (.cons _ (.refl _))))))
          | false =>
            repeat first | (with_reducible first | refine Wp.seq ?_ | refine Wp.reg ?_ | refine Wp.block ?_ | refine Wp.skip ?_ | refine Wp.ret ?_ | refine Wp.exit ?_ | refine Wp.label ?_ | refine Wp.condG ?_) | simp (disch := omega) only [↓RP, RQ, TS, TR, ↓reduceIte, Nat.reduceEqDiff, Nat.reduceLT, Nat.reduceLeDiff, Int.reduceLT, Int.reduceLE, Int.reduceEq, Int.reduceAdd, Int.reduceSub, Int.reduceNeg, Int.reduceToNat, Nat.reduceAdd, Nat.reduceMul, Nat.reduceSub, reduceCtorEq, RC, hn', g1', g6', g7', g8', g9', g10', g24', g25', g26', hS.ld 2 rfl, hS.ld 4 rfl]
            refine hS.eSlice [I k] tP29 tF29 rfl rfl (by simp [Value.cells]) rfl rfl (by decide) (by decide) fun y H4 hS => ?_
            have hS := hS.front
            repeat first | (with_reducible first | refine Wp.seq ?_ | refine Wp.reg ?_ | refine Wp.block ?_ | refine Wp.skip ?_ | refine Wp.ret ?_ | refine Wp.exit ?_ | refine Wp.label ?_ | refine Wp.condG ?_) | simp (disch := omega) only [↓RP, RQ, TS, TR, ↓reduceIte, Nat.reduceEqDiff, Nat.reduceLT, Nat.reduceLeDiff, Int.reduceLT, Int.reduceLE, Int.reduceEq, Int.reduceAdd, Int.reduceSub, Int.reduceNeg, Int.reduceToNat, Nat.reduceAdd, Nat.reduceMul, Nat.reduceSub, reduceCtorEq, RC, hn', g1', g6', g7', g8', g9', g10', g24', g25', g26']
            refine hS.eAppend 6 rfl (hS.rd 0 rfl) tP29 (by simp only [nts, List.length_map, List.length_cons, List.length_nil]; omega) fun ov' H5 hS => ?_
            simp only [List.nil_append, List.cons_append, List.append_nil, List.set_cons_zero, List.set_cons_succ, setMany_cons, setMany_nil, Nat.zero_add, Nat.mul_one, Nat.add_zero] at hS
            repeat first | (with_reducible first | refine Wp.seq ?_ | refine Wp.reg ?_ | refine Wp.block ?_ | refine Wp.skip ?_ | refine Wp.ret ?_ | refine Wp.exit ?_ | refine Wp.label ?_ | refine Wp.condG ?_) | simp (disch := omega) only [↓RP, RQ, TS, TR, ↓reduceIte, Nat.reduceEqDiff, Nat.reduceLT, Nat.reduceLeDiff, Int.reduceLT, Int.reduceLE, Int.reduceEq, Int.reduceAdd, Int.reduceSub, Int.reduceNeg, Int.reduceToNat, Nat.reduceAdd, Nat.reduceMul, Nat.reduceSub, reduceCtorEq, RC, hn', g1', g6', g7', g8', g9', g10', g24', g25', g26', wrap_fit]
            refine ⟨n - 1, by omega, k + 1, ov', by omega, rfl, rfl, ?_⟩
            rw [hsucc, if_neg (by decide), show nts (ndd es k ++ [k]) = nts (ndd es k) ++ [I k] from by simp [nts]]
            exact hS.sub (.cons _ (.cons _ (.cons _ (.cons _ (.cons _ (.cons _ (.refl _)))))))
        · exact hf.elim
    · have hke : k = es.length := by omega
      subst hke
      have ho := hS.rd 0 rfl
      repeat first | (with_reducible first | refine Wp.seq ?_ | refine Wp.reg ?_ | refine Wp.block ?_ | refine Wp.skip ?_ | refine Wp.ret ?_ | refine Wp.exit ?_ | refine Wp.label ?_ | refine Wp.condG ?_) | simp (disch := omega) only [↓RP, RQ, TS, TR, ↓reduceIte, Nat.reduceEqDiff, Nat.reduceLT, Nat.reduceLeDiff, Int.reduceLT, Int.reduceLE, Int.reduceEq, Int.reduceAdd, Int.reduceSub, Int.reduceNeg, Int.reduceToNat, Nat.reduceAdd, Nat.reduceMul, Nat.reduceSub, reduceCtorEq, RC, hn, g1, g6, g24, g25, g26, g7, ho.noTuple]
      exact ⟨out, hT, .inl ⟨hoN, ov, rfl, hS.sub (.cons_cons _ (List.nil_sublist _))⟩⟩
  · have hS := hS.trans hS2
    simp only [List.nil_append, List.cons_append, List.append_nil, List.set_cons_zero, List.set_cons_succ, setMany_cons, setMany_nil, Nat.zero_add, Nat.mul_one, Nat.add_zero] at hS
    repeat first | (with_reducible first | refine Wp.seq ?_ | refine Wp.reg ?_ | refine Wp.block ?_ | refine Wp.skip ?_ | refine Wp.ret ?_ | refine Wp.exit ?_ | refine Wp.label ?_ | refine Wp.condG ?_) | simp (disch := omega) only [↓RP, RQ, TS, TR, ↓reduceIte, Nat.reduceEqDiff, Nat.reduceLT, Nat.reduceLeDiff, Int.reduceLT, Int.reduceLE, Int.reduceEq, Int.reduceAdd, Int.reduceSub, Int.reduceNeg, Int.reduceToNat, Nat.reduceAdd, Nat.reduceMul, Nat.reduceSub, reduceCtorEq, RC, hn, g0]
    exact ⟨out, hT, .inr ⟨hlt, hst, hS.forget⟩⟩
end Go.Ds
/-
  Contracts: the reference's Order.
-/
namespace Go.Ds
open Go.Proofs Go.Plain
variable {H : Heap}

/-- Which have come. -/
abbrev dn (N : Nat) (out : List Nat) : List Value := (List.range N).map fun k => .bool (decide (k ∈ out))
theorem dn_set (N i : Nat) (out : List Nat) : (dn N out).set i (.bool true) = dn N (out ++ [i]) := by
  unfold dn
  rw [map_upd]
  apply List.map_congr_left
  intro k _
  unfold upd
  by_cases e : k = i
  · rw [if_pos e, e]; simp
  · rw [if_neg e]; simp [e]

theorem refOrder_ok (N : Nat) (ev : Value) (es : List (Nat × Nat)) (hE : Eg H ev es) (hN : N ≤ 200) (he : es.length ≤ 1000) (hval : ∀ e ∈ es, e.1 < N ∧ e.2 < N) (hno : ∀ n a, ¬ W es (n + 1) a a) :
    Fn Try.prog 23 [I N, ev] H fun r H' => ∃ out : List Nat, Top es N out ∧ out.length = N ∧ St Try.prog H H' [⟨r, 1, nts out⟩] := by
  have hrl : (List.range N).length = N := List.length_range
  refine Fn.of_wp (fn := Try.f23) rfl rfl (by kernel_rfl) fun l hl => ?_
  have hn : l.length = 61 := by rw [hl]; rfl
  have g0 : get l 0 = I N := by rw [hl]; rfl
  have g1 : get l 1 = ev := by rw [hl]; rfl
  clear hl
  repeat first | (with_reducible first | refine Wp.seq ?_ | refine Wp.reg ?_ | refine Wp.block ?_ | refine Wp.skip ?_ | refine Wp.ret ?_ | refine Wp.exit ?_ | refine Wp.label ?_ | refine Wp.condG ?_) | simp (disch := omega) only [↓RP, RQ, TS, TR, ↓reduceIte, Nat.reduceEqDiff, Nat.reduceLT, Nat.reduceLeDiff, Int.reduceLT, Int.reduceLE, Int.reduceEq, Int.reduceAdd, Int.reduceSub, Int.reduceNeg, Int.reduceToNat, Nat.reduceAdd, Nat.reduceMul, Nat.reduceSub, reduceCtorEq, RC, hn, g0, g1]
  refine (St.refl _ H).eMake1 N tM69 (by omega) fun w H1 hS => ?_
  have hS := (hS.nil 0).front
  rw [show List.replicate N (Value.bool false) = dn N [] from by unfold dn; simp [List.map_const']] at hS
  simp only [List.nil_append, List.cons_append, List.append_nil, List.set_cons_zero, List.set_cons_succ, setMany_cons, setMany_nil, Nat.zero_add, Nat.mul_one, Nat.add_zero] at hS
  repeat first | (with_reducible first | refine Wp.seq ?_ | refine Wp.reg ?_ | refine Wp.block ?_ | refine Wp.skip ?_ | refine Wp.ret ?_ | refine Wp.exit ?_ | refine Wp.label ?_ | refine Wp.condG ?_) | simp (disch := omega) only [↓RP, RQ, TS, TR, ↓reduceIte, Nat.reduceEqDiff, Nat.reduceLT, Nat.reduceLeDiff, Int.reduceLT, Int.reduceLE, Int.reduceEq, Int.reduceAdd, Int.reduceSub, Int.reduceNeg, Int.reduceToNat, Nat.reduceAdd, Nat.reduceMul, Nat.reduceSub, reduceCtorEq, RC, hn, g0, g1]
  refine Wp.loopN (fun n l H' => l.length = 61 ∧ get l 0 = I N ∧ get l 1 = ev ∧ get l 5 = w ∧ ∃ (out : List Nat) (ov : Value), n + out.length = N ∧ get l 6 = ov ∧ Top es N out ∧ St Try.prog H H' [⟨ov, 1, nts out⟩, ⟨w, 1, dn N out⟩]) N ?_ ?_
  · repeat first | (with_reducible first | refine Wp.seq ?_ | refine Wp.reg ?_ | refine Wp.block ?_ | refine Wp.skip ?_ | refine Wp.ret ?_ | refine Wp.exit ?_ | refine Wp.label ?_ | refine Wp.condG ?_) | simp (disch := omega) only [↓RP, RQ, TS, TR, ↓reduceIte, Nat.reduceEqDiff, Nat.reduceLT, Nat.reduceLeDiff, Int.reduceLT, Int.reduceLE, Int.reduceEq, Int.reduceAdd, Int.reduceSub, Int.reduceNeg, Int.reduceToNat, Nat.reduceAdd, Nat.reduceMul, Nat.reduceSub, reduceCtorEq, RC, hn, g0, g1]
    exact ⟨[], _, rfl, rfl, .nil, hS⟩
  clear hS hn g0 g1
  rintro n l H' ⟨hn, g0, g1, g5, out, ov, hnl, g6, hT, hS⟩
  have hov : Sl1 H' ov (fun n : Nat => I n) out := hS.rd 0 rfl
  repeat first | (with_reducible first | refine Wp.seq ?_ | refine Wp.reg ?_ | refine Wp.block ?_ | refine Wp.skip ?_ | refine Wp.ret ?_ | refine Wp.exit ?_ | refine Wp.label ?_ | refine Wp.condG ?_) | simp (disch := omega) only [↓RP, RQ, TS, TR, ↓reduceIte, Nat.reduceEqDiff, Nat.reduceLT, Nat.reduceLeDiff, Int.reduceLT, Int.reduceLE, Int.reduceEq, Int.reduceAdd, Int.reduceSub, Int.reduceNeg, Int.reduceToNat, Nat.reduceAdd, Nat.reduceMul, Nat.reduceSub, reduceCtorEq, RC, hn, g0, g1, g5, g6, hov.len]
  refine condW_split (fun h => ?_) (fun h => ?_)
  · obtain ⟨x, hxN, hrx, hlx⟩ := Top.more hval hno (show out.length < N by omega)
    have hw : Sl1 H' w (fun k => .bool (decide (k ∈ out))) (List.range N) := hS.rd 1 rfl
    have hv1 : Sl2 H' ev _ _ es := hS.base hE
    repeat first | (with_reducible first | refine Wp.seq ?_ | refine Wp.reg ?_ | refine Wp.block ?_ | refine Wp.skip ?_ | refine Wp.ret ?_ | refine Wp.exit ?_ | refine Wp.label ?_ | refine Wp.condG ?_) | simp (disch := omega) only [↓RP, RQ, TS, TR, ↓reduceIte, Nat.reduceEqDiff, Nat.reduceLT, Nat.reduceLeDiff, Int.reduceLT, Int.reduceLE, Int.reduceEq, Int.reduceAdd, Int.reduceSub, Int.reduceNeg, Int.reduceToNat, Nat.reduceAdd, Nat.reduceMul, Nat.reduceSub, reduceCtorEq, RC, hn, g0, g1, g5, g6]
    refine Wp.mono (Q := fun e l2 H2 => e = .exit 2 ∧ l2.length = 61 ∧ get l2 0 = I N ∧ get l2 1 = ev ∧ get l2 5 = w ∧ ∃ ov', get l2 6 = ov' ∧ St Try.prog H H2 [⟨ov', 1, nts (out ++ [x])⟩, ⟨w, 1, dn N (out ++ [x])⟩]) ?_ ?_
    · refine Wp.loopN (fun m l H2 => H2 = H' ∧ l.length = 61 ∧ get l 0 = I N ∧ get l 1 = ev ∧ get l 5 = w ∧ get l 6 = ov ∧ ∃ i : Nat, m + i = N ∧ get l 7 = I i ∧ i ≤ x) N ?_ ?_
      · repeat first | (with_reducible first | refine Wp.seq ?_ | refine Wp.reg ?_ | refine Wp.block ?_ | refine Wp.skip ?_ | refine Wp.ret ?_ | refine Wp.exit ?_ | refine Wp.label ?_ | refine Wp.condG ?_) | simp (disch := omega) only [↓RP, RQ, TS, TR, ↓reduceIte, Nat.reduceEqDiff, Nat.reduceLT, Nat.reduceLeDiff, Int.reduceLT, Int.reduceLE, Int.reduceEq, Int.reduceAdd, Int.reduceSub, Int.reduceNeg, Int.reduceToNat, Nat.reduceAdd, Nat.reduceMul, Nat.reduceSub, reduceCtorEq, RC, hn, g0, g1, g5, g6]
        exact ⟨0, rfl, rfl, Nat.zero_le _⟩
      clear hn g0 g1 g5 g6
      rintro m l H2 ⟨rfl, hn, g0, g1, g5, g6, i, hi, g7, hix⟩
      repeat first | (with_reducible first | refine Wp.seq ?_ | refine Wp.reg ?_ | refine Wp.block ?_ | refine Wp.skip ?_ | refine Wp.ret ?_ | refine Wp.exit ?_ | refine Wp.label ?_ | refine Wp.condG ?_) | simp (disch := omega) only [↓RP, RQ, TS, TR, ↓reduceIte, Nat.reduceEqDiff, Nat.reduceLT, Nat.reduceLeDiff, Int.reduceLT, Int.reduceLE, Int.reduceEq, Int.reduceAdd, Int.reduceSub, Int.reduceNeg, Int.reduceToNat, Nat.reduceAdd, Nat.reduceMul, Nat.reduceSub, reduceCtorEq, RC, hn, g0, g1, g5, g6, g7]
      refine condW_split (fun h2 => ?_) (fun h2 => absurd h2 (by omega))
      repeat first | (with_reducible first | refine Wp.seq ?_ | refine Wp.reg ?_ | refine Wp.block ?_ | refine Wp.skip ?_ | refine Wp.ret ?_ | refine Wp.exit ?_ | refine Wp.label ?_ | refine Wp.condG ?_) | simp (disch := omega) only [↓RP, RQ, TS, TR, ↓reduceIte, Nat.reduceEqDiff, Nat.reduceLT, Nat.reduceLeDiff, Int.reduceLT, Int.reduceLE, Int.reduceEq, Int.reduceAdd, Int.reduceSub, Int.reduceNeg, Int.reduceToNat, Nat.reduceAdd, Nat.reduceMul, Nat.reduceSub, reduceCtorEq, RC, hn, g0, g1, g5, g6, g7, hw.idx, hw.ld 0, getD_range]
      refine Wp.mono (Q := fun e l2 H3 => e = .exit 4 ∧ H3 = H2 ∧ l2.length = 61 ∧ get l2 0 = I N ∧ get l2 1 = ev ∧ get l2 5 = w ∧ get l2 6 = ov ∧ get l2 7 = I i ∧ ∃ b : Bool, get l2 8 = .bool b ∧ (b = true ↔ rdy es out i)) ?_ ?_
      · refine Wp.loopN (fun q l H3 => H3 = H2 ∧ l.length = 61 ∧ get l 0 = I N ∧ get l 1 = ev ∧ get l 5 = w ∧ get l 6 = ov ∧ get l 7 = I i ∧ ∃ (k : Nat) (b : Bool), q + k = es.length ∧ get l 9 = I k ∧ get l 8 = .bool b ∧
          (b = true ↔ i ∉ out ∧ ∀ j, j < k → (es.getD j (0, 0)).2 = i → (es.getD j (0, 0)).1 ∈ out)) es.length ?_ ?_
        · repeat first | (with_reducible first | refine Wp.seq ?_ | refine Wp.reg ?_ | refine Wp.block ?_ | refine Wp.skip ?_ | refine Wp.ret ?_ | refine Wp.exit ?_ | refine Wp.label ?_ | refine Wp.condG ?_) | simp (disch := omega) only [↓RP, RQ, TS, TR, ↓reduceIte, Nat.reduceEqDiff, Nat.reduceLT, Nat.reduceLeDiff, Int.reduceLT, Int.reduceLE, Int.reduceEq, Int.reduceAdd, Int.reduceSub, Int.reduceNeg, Int.reduceToNat, Nat.reduceAdd, Nat.reduceMul, Nat.reduceSub, reduceCtorEq, RC, hn, g0, g1, g5, g6, g7]
          refine ⟨0, _, rfl, rfl, rfl, ?_⟩
          simp
        clear hn g0 g1 g5 g6 g7
        rintro q l H3 ⟨rfl, hn, g0, g1, g5, g6, g7, k, b, hk, g9, g8, hb⟩
        repeat first | (with_reducible first | refine Wp.seq ?_ | refine Wp.reg ?_ | refine Wp.block ?_ | refine Wp.skip ?_ | refine Wp.ret ?_ | refine Wp.exit ?_ | refine Wp.label ?_ | refine Wp.condG ?_) | simp (disch := omega) only [↓RP, RQ, TS, TR, ↓reduceIte, Nat.reduceEqDiff, Nat.reduceLT, Nat.reduceLeDiff, Int.reduceLT, Int.reduceLE, Int.reduceEq, Int.reduceAdd, Int.reduceSub, Int.reduceNeg, Int.reduceToNat, Nat.reduceAdd, Nat.reduceMul, Nat.reduceSub, reduceCtorEq, RC, hn, g0, g1, g5, g6, g7, g8, g9, hv1.len]
        refine condW_split (fun h3 => ?_) (fun h3 => ?_)
        · have hkl : k < es.length := by omega
          have hm := hval _ (getD_mem (0, 0) hkl)
          have hstep : (b = true ∧ ((es.getD k (0, 0)).2 = i → (es.getD k (0, 0)).1 ∈ out)) ↔ (i ∉ out ∧ ∀ j, j < k + 1 → (es.getD j (0, 0)).2 = i → (es.getD j (0, 0)).1 ∈ out) := by
            rw [hb]
            constructor
            · rintro ⟨⟨h5, h6⟩, h7⟩
              refine ⟨h5, fun j hj => ?_⟩
              by_cases e : j = k
              · subst e; exact h7
              · exact h6 j (by omega)
            · rintro ⟨h5, h6⟩
              exact ⟨⟨h5, fun j hj => h6 j (by omega)⟩, h6 k (by omega)⟩
          cases b with
          | false =>
            repeat first | (with_reducible first | refine Wp.seq ?_ | refine Wp.reg ?_ | refine Wp.block ?_ | refine Wp.skip ?_ | refine Wp.ret ?_ | refine Wp.exit ?_ | refine Wp.label ?_ | refine Wp.condG ?_) | simp (disch := omega) only [↓RP, RQ, TS, TR, ↓reduceIte, Nat.reduceEqDiff, Nat.reduceLT, Nat.reduceLeDiff, Int.reduceLT, Int.reduceLE, Int.reduceEq, Int.reduceAdd, Int.reduceSub, Int.reduceNeg, Int.reduceToNat, Nat.reduceAdd, Nat.reduceMul, Nat.reduceSub, reduceCtorEq, RC, hn, g0, g1, g5, g6, g7, g8, g9, wrap_fit]
            refine ⟨q - 1, by omega, k + 1, false, by omega, rfl, rfl, ?_⟩
            rw [← hstep]
            simp
          | true =>
            repeat first | (with_reducible first | refine Wp.seq ?_ | refine Wp.reg ?_ | refine Wp.block ?_ | refine Wp.skip ?_ | refine Wp.ret ?_ | refine Wp.exit ?_ | refine Wp.label ?_ | refine Wp.condG ?_) | simp (disch := omega) only [↓RP, RQ, TS, TR, ↓reduceIte, Nat.reduceEqDiff, Nat.reduceLT, Nat.reduceLeDiff, Int.reduceLT, Int.reduceLE, Int.reduceEq, Int.reduceAdd, Int.reduceSub, Int.reduceNeg, Int.reduceToNat, Nat.reduceAdd, Nat.reduceMul, Nat.reduceSub, reduceCtorEq, RC, hn, g0, g1, g5, g6, g7, g8, g9, hv1.idx, hv1.fld, hv1.ld1 (0, 0)]
            refine letG_split' (fun h4 => ?_) (fun h4 => ?_)
            · repeat first | (with_reducible first | refine Wp.seq ?_ | refine Wp.reg ?_ | refine Wp.block ?_ | refine Wp.skip ?_ | refine Wp.ret ?_ | refine Wp.exit ?_ | refine Wp.label ?_ | refine Wp.condG ?_) | simp (disch := omega) only [↓RP, RQ, TS, TR, ↓reduceIte, Nat.reduceEqDiff, Nat.reduceLT, Nat.reduceLeDiff, Int.reduceLT, Int.reduceLE, Int.reduceEq, Int.reduceAdd, Int.reduceSub, Int.reduceNeg, Int.reduceToNat, Nat.reduceAdd, Nat.reduceMul, Nat.reduceSub, reduceCtorEq, RC, hn, g0, g1, g5, g6, g7, g8, g9, h4, wrap_fit]
              refine ⟨q - 1, by omega, k + 1, true, by omega, rfl, rfl, ?_⟩
              rw [← hstep]
              simp only [true_and, true_iff]
              intro h5
              exact (h4 (by rw [h5])).elim
            · have h4' : (es.getD k (0, 0)).2 = i := by omega
              have hd4 : decide (¬ ((es.getD k (0, 0)).2 : Int) = (i : Int)) = false := decide_eq_false (fun hh => hh (by rw [h4']))
              repeat first | (with_reducible first | refine Wp.seq ?_ | refine Wp.reg ?_ | refine Wp.block ?_ | refine Wp.skip ?_ | refine Wp.ret ?_ | refine Wp.exit ?_ | refine Wp.label ?_ | refine Wp.condG ?_) | simp (disch := omega) only [↓RP, RQ, TS, TR, ↓reduceIte, Nat.reduceEqDiff, Nat.reduceLT, Nat.reduceLeDiff, Int.reduceLT, Int.reduceLE, Int.reduceEq, Int.reduceAdd, Int.reduceSub, Int.reduceNeg, Int.reduceToNat, Nat.reduceAdd, Nat.reduceMul, Nat.reduceSub, reduceCtorEq, RC, hn, g0, g1, g5, g6, g7, g8, g9, hd4, hv1.idx, hv1.fld, hv1.ld0 (0, 0), hw.idx, hw.ld 0, getD_range, wrap_fit]
              refine ⟨q - 1, by omega, k + 1, _, by omega, rfl, rfl, ?_⟩
              rw [← hstep, decide_eq_true_eq]
              constructor
              · intro h5
                exact ⟨rfl, fun _ => h5⟩
              · rintro ⟨_, h5⟩
                exact h5 h4'
        · repeat first | (with_reducible first | refine Wp.seq ?_ | refine Wp.reg ?_ | refine Wp.block ?_ | refine Wp.skip ?_ | refine Wp.ret ?_ | refine Wp.exit ?_ | refine Wp.label ?_ | refine Wp.condG ?_) | simp (disch := omega) only [↓RP, RQ, TS, TR, ↓reduceIte, Nat.reduceEqDiff, Nat.reduceLT, Nat.reduceLeDiff, Int.reduceLT, Int.reduceLE, Int.reduceEq, Int.reduceAdd, Int.reduceSub, Int.reduceNeg, Int.reduceToNat, Nat.reduceAdd, Nat.reduceMul, Nat.reduceSub, reduceCtorEq, RC, hn, g0, g1, g5, g6, g7, g8, g9]
          refine ⟨b, rfl, ?_⟩
          rw [hb]
          have hke : k = es.length := by omega
          constructor
          · rintro ⟨h5, h6⟩
            refine ⟨h5, fun e he h7 => ?_⟩
            obtain ⟨j, hj, rfl⟩ := List.getElem_of_mem he
            have := h6 j (by omega)
            rw [List.getD_eq_getElem?_getD, List.getElem?_eq_getElem hj] at this
            exact this h7
          · rintro ⟨h5, h6⟩
            exact ⟨h5, fun j hj => h6 _ (getD_mem (0, 0) (by omega))⟩
      · clear hn g0 g1 g5 g6 g7
        rintro e l H3 ⟨rfl, rfl, hn, g0, g1, g5, g6, g7, b, g8, hb⟩
        cases b with
        | false =>
          have hnr : ¬ rdy es out i := fun hh => by have := hb.2 hh; cases this
          have hne : i ≠ x := fun hh => hnr (by rw [hh]; exact hrx)
          repeat first | (with_reducible first | refine Wp.seq ?_ | refine Wp.reg ?_ | refine Wp.block ?_ | refine Wp.skip ?_ | refine Wp.ret ?_ | refine Wp.exit ?_ | refine Wp.label ?_ | refine Wp.condG ?_) | simp (disch := omega) only [↓RP, RQ, TS, TR, ↓reduceIte, Nat.reduceEqDiff, Nat.reduceLT, Nat.reduceLeDiff, Int.reduceLT, Int.reduceLE, Int.reduceEq, Int.reduceAdd, Int.reduceSub, Int.reduceNeg, Int.reduceToNat, Nat.reduceAdd, Nat.reduceMul, Nat.reduceSub, reduceCtorEq, RC, hn, g0, g1, g5, g6, g7, g8, wrap_fit]
          exact ⟨m - 1, by omega, i + 1, by omega, rfl, by omega⟩
        | true =>
          have hri := hb.1 rfl
          have hie : i = x := by
            rcases Nat.lt_or_ge i x with h5 | h5
            · exact (hlx i h5 hri).elim
            · omega
          subst hie
          repeat first | (with_reducible first | refine Wp.seq ?_ | refine Wp.reg ?_ | refine Wp.block ?_ | refine Wp.skip ?_ | refine Wp.ret ?_ | refine Wp.exit ?_ | refine Wp.label ?_ | refine Wp.condG ?_) | simp (disch := omega) only [↓RP, RQ, TS, TR, ↓reduceIte, Nat.reduceEqDiff, Nat.reduceLT, Nat.reduceLeDiff, Int.reduceLT, Int.reduceLE, Int.reduceEq, Int.reduceAdd, Int.reduceSub, Int.reduceNeg, Int.reduceToNat, Nat.reduceAdd, Nat.reduceMul, Nat.reduceSub, reduceCtorEq, RC, hn, g0, g1, g5, g6, g7, g8, hw.idx]
          refine hS.eStoreE 1 rfl [_] rfl rfl tS4 (by simp) (by simp only [List.length_map, List.length_range, List.length_cons, List.length_nil]; omega) fun H4 hS => ?_
          simp only [List.nil_append, List.cons_append, List.append_nil, List.set_cons_zero, List.set_cons_succ, setMany_cons, setMany_nil, Nat.zero_add, Nat.mul_one, Nat.add_zero] at hS
          rw [dn_set] at hS
          repeat first | (with_reducible first | refine Wp.seq ?_ | refine Wp.reg ?_ | refine Wp.block ?_ | refine Wp.skip ?_ | refine Wp.ret ?_ | refine Wp.exit ?_ | refine Wp.label ?_ | refine Wp.condG ?_) | simp (disch := omega) only [↓RP, RQ, TS, TR, ↓reduceIte, Nat.reduceEqDiff, Nat.reduceLT, Nat.reduceLeDiff, Int.reduceLT, Int.reduceLE, Int.reduceEq, Int.reduceAdd, Int.reduceSub, Int.reduceNeg, Int.reduceToNat, Nat.reduceAdd, Nat.reduceMul, Nat.reduceSub, reduceCtorEq, RC, hn, g0, g1, g5, g6, g7]
          refine hS.eSlice [I i] tP29 tF29 rfl rfl (by simp [Value.cells]) rfl rfl (by decide) (by decide) fun y H5 hS => ?_
          repeat first | (with_reducible first | refine Wp.seq ?_ | refine Wp.reg ?_ | refine Wp.block ?_ | refine Wp.skip ?_ | refine Wp.ret ?_ | refine Wp.exit ?_ | refine Wp.label ?_ | refine Wp.condG ?_) | simp (disch := omega) only [↓RP, RQ, TS, TR, ↓reduceIte, Nat.reduceEqDiff, Nat.reduceLT, Nat.reduceLeDiff, Int.reduceLT, Int.reduceLE, Int.reduceEq, Int.reduceAdd, Int.reduceSub, Int.reduceNeg, Int.reduceToNat, Nat.reduceAdd, Nat.reduceMul, Nat.reduceSub, reduceCtorEq, RC, hn, g0, g1, g5, g6, g7]
          refine hS.eAppend 0 rfl (hS.rd 2 rfl) tP29 (by simp only [nts, List.length_map, List.length_cons, List.length_nil]; omega) fun ov' H6 hS => ?_
          simp only [List.nil_append, List.cons_append, List.append_nil, List.set_cons_zero, List.set_cons_succ, setMany_cons, setMany_nil, Nat.zero_add, Nat.mul_one, Nat.add_zero] at hS
          repeat first | (with_reducible first | refine Wp.seq ?_ | refine Wp.reg ?_ | refine Wp.block ?_ | refine Wp.skip ?_ | refine Wp.ret ?_ | refine Wp.exit ?_ | refine Wp.label ?_ | refine Wp.condG ?_) | simp (disch := omega) only [↓RP, RQ, TS, TR, ↓reduceIte, Nat.reduceEqDiff, Nat.reduceLT, Nat.reduceLeDiff, Int.reduceLT, Int.reduceLE, Int.reduceEq, Int.reduceAdd, Int.reduceSub, Int.reduceNeg, Int.reduceToNat, Nat.reduceAdd, Nat.reduceMul, Nat.reduceSub, reduceCtorEq, RC, hn, g0, g1, g5, g6, g7]
          have hS := hS.sub (os' := [⟨ov', 1, nts (out ++ [i])⟩, ⟨w, 1, dn N (out ++ [i])⟩]) (by
            rw [show nts (out ++ [i]) = nts out ++ [I i] from by simp [nts]]
            exact .cons_cons _ (.cons_cons _ (.cons _ (.refl _))))
          exact ⟨ov', rfl, hS⟩
    · clear hn g0 g1 g5 g6
      rintro e l H3 ⟨rfl, hn, g0, g1, g5, ov', g6, hS⟩
      repeat first | (with_reducible first | refine Wp.seq ?_ | refine Wp.reg ?_ | refine Wp.block ?_ | refine Wp.skip ?_ | refine Wp.ret ?_ | refine Wp.exit ?_ | refine Wp.label ?_ | refine Wp.condG ?_) | simp (disch := omega) only [↓RP, RQ, TS, TR, ↓reduceIte, Nat.reduceEqDiff, Nat.reduceLT, Nat.reduceLeDiff, Int.reduceLT, Int.reduceLE, Int.reduceEq, Int.reduceAdd, Int.reduceSub, Int.reduceNeg, Int.reduceToNat, Nat.reduceAdd, Nat.reduceMul, Nat.reduceSub, reduceCtorEq, RC, hn, g0, g1, g5, g6]
      refine ⟨n - 1, by omega, out ++ [x], ov', ?_, rfl, hT.step hxN hrx hlx, hS⟩
      rw [List.length_append]
      simp only [List.length_cons, List.length_nil]
      omega
  · repeat first | (with_reducible first | refine Wp.seq ?_ | refine Wp.reg ?_ | refine Wp.block ?_ | refine Wp.skip ?_ | refine Wp.ret ?_ | refine Wp.exit ?_ | refine Wp.label ?_ | refine Wp.condG ?_) | simp (disch := omega) only [↓RP, RQ, TS, TR, ↓reduceIte, Nat.reduceEqDiff, Nat.reduceLT, Nat.reduceLeDiff, Int.reduceLT, Int.reduceLE, Int.reduceEq, Int.reduceAdd, Int.reduceSub, Int.reduceNeg, Int.reduceToNat, Nat.reduceAdd, Nat.reduceMul, Nat.reduceSub, reduceCtorEq, RC, hn, g0, g1, g5, g6]
    exact ⟨out, hT, by have := nodup_le N out hT.nodup hT.lt; omega, hS.sub (by simp)⟩
end Go.Ds

namespace Go.Ds
open Go.Proofs Go.Plain
variable {H : Heap}

theorem refLongest_ok (N : Nat) (v : Value) (es : List (Nat × Nat)) (hv : Eg H v es) (hN : N ≤ 200) (he : es.length ≤ 1000) (hval : ∀ e ∈ es, e.1 < N ∧ e.2 < N) (top : List Nat) (hT : Top es N top) (hTN : top.length = N) :
    Fn Try.prog 24 [I N, v] H fun r H' => ∃ d : List Int, IsL es N d ∧ St Try.prog H H' [⟨r, 1, d.map (.int .i64)⟩] := by
  refine Fn.of_wp (fn := Try.f24) rfl rfl (by kernel_rfl) fun l hl => ?_
  have hn : l.length = 52 := by rw [hl]; rfl
  have g0 : get l 0 = I N := by rw [hl]; rfl
  have g1 : get l 1 = v := by rw [hl]; rfl
  clear hl
  repeat first | (with_reducible first | refine Wp.seq ?_ | refine Wp.reg ?_ | refine Wp.block ?_ | refine Wp.skip ?_ | refine Wp.ret ?_ | refine Wp.exit ?_ | refine Wp.label ?_ | refine Wp.condG ?_) | simp (disch := omega) only [↓RP, RQ, TS, TR, ↓reduceIte, Nat.reduceEqDiff, Nat.reduceLT, Nat.reduceLeDiff, Int.reduceLT, Int.reduceLE, Int.reduceEq, Int.reduceAdd, Int.reduceSub, Int.reduceNeg, Int.reduceToNat, Nat.reduceAdd, Nat.reduceMul, Nat.reduceSub, reduceCtorEq, RC, hn, g0, g1]
  refine (St.refl _ H).eMake1 N tM29 (by omega) fun w H2 hS => ?_
  simp only [List.nil_append, List.cons_append, List.append_nil, List.set_cons_zero, List.set_cons_succ, setMany_cons, setMany_nil, Nat.zero_add, Nat.mul_one, Nat.add_zero] at hS
  rw [show List.replicate N (Value.int .i64 0) = (List.replicate N (0 : Int)).map (.int .i64) from by simp] at hS
  repeat first | (with_reducible first | refine Wp.seq ?_ | refine Wp.reg ?_ | refine Wp.block ?_ | refine Wp.skip ?_ | refine Wp.ret ?_ | refine Wp.exit ?_ | refine Wp.label ?_ | refine Wp.condG ?_) | simp (disch := omega) only [↓RP, RQ, TS, TR, ↓reduceIte, Nat.reduceEqDiff, Nat.reduceLT, Nat.reduceLeDiff, Int.reduceLT, Int.reduceLE, Int.reduceEq, Int.reduceAdd, Int.reduceSub, Int.reduceNeg, Int.reduceToNat, Nat.reduceAdd, Nat.reduceMul, Nat.reduceSub, reduceCtorEq, RC, hn, g0, g1]
  refine Wp.loopN (fun n2 l H' => l.length = 52 ∧ get l 0 = I N ∧ get l 1 = v ∧ get l 5 = w ∧ ∃ (b : Bool) (d : List Int), get l 6 = .bool b ∧ n2 = 2 * slack N d + (if b = true then 1 else 0) ∧ Ls es N d ∧
      (b = false → ∀ e ∈ es, d.getD e.1 0 + 1 ≤ d.getD e.2 0) ∧ St Try.prog H H' [⟨w, 1, d.map (.int .i64)⟩]) (2 * slack N (List.replicate N 0) + 1) ?_ ?_
  · repeat first | (with_reducible first | refine Wp.seq ?_ | refine Wp.reg ?_ | refine Wp.block ?_ | refine Wp.skip ?_ | refine Wp.ret ?_ | refine Wp.exit ?_ | refine Wp.label ?_ | refine Wp.condG ?_) | simp (disch := omega) only [↓RP, RQ, TS, TR, ↓reduceIte, Nat.reduceEqDiff, Nat.reduceLT, Nat.reduceLeDiff, Int.reduceLT, Int.reduceLE, Int.reduceEq, Int.reduceAdd, Int.reduceSub, Int.reduceNeg, Int.reduceToNat, Nat.reduceAdd, Nat.reduceMul, Nat.reduceSub, reduceCtorEq, RC, hn, g0, g1]
    exact ⟨true, List.replicate N 0, rfl, rfl, .zero es N, (fun h => by cases h), hS⟩
  clear hS hn g0 g1
  rintro n2 l H' ⟨hn, g0, g1, g5, b, d, g6, hn2, hR, hb, hS⟩
  repeat first | (with_reducible first | refine Wp.seq ?_ | refine Wp.reg ?_ | refine Wp.block ?_ | refine Wp.skip ?_ | refine Wp.ret ?_ | refine Wp.exit ?_ | refine Wp.label ?_ | refine Wp.condG ?_) | simp (disch := omega) only [↓RP, RQ, TS, TR, ↓reduceIte, Nat.reduceEqDiff, Nat.reduceLT, Nat.reduceLeDiff, Int.reduceLT, Int.reduceLE, Int.reduceEq, Int.reduceAdd, Int.reduceSub, Int.reduceNeg, Int.reduceToNat, Nat.reduceAdd, Nat.reduceMul, Nat.reduceSub, reduceCtorEq, RC, hn, g0, g1, g5, g6]
  refine condW_bool (fun hbt => ?_) (fun hbf => ?_)
  · subst hbt
    repeat first | (with_reducible first | refine Wp.seq ?_ | refine Wp.reg ?_ | refine Wp.block ?_ | refine Wp.skip ?_ | refine Wp.ret ?_ | refine Wp.exit ?_ | refine Wp.label ?_ | refine Wp.condG ?_) | simp (disch := omega) only [↓RP, RQ, TS, TR, ↓reduceIte, Nat.reduceEqDiff, Nat.reduceLT, Nat.reduceLeDiff, Int.reduceLT, Int.reduceLE, Int.reduceEq, Int.reduceAdd, Int.reduceSub, Int.reduceNeg, Int.reduceToNat, Nat.reduceAdd, Nat.reduceMul, Nat.reduceSub, reduceCtorEq, RC, hn, g0, g1, g5, g6]
    refine Wp.loopN (fun n3 l H' => l.length = 52 ∧ get l 0 = I N ∧ get l 1 = v ∧ get l 5 = w ∧ ∃ (b : Bool) (d' : List Int) (k : Nat), n3 + k = es.length ∧ get l 7 = I k ∧ get l 6 = .bool b ∧ Ls es N d' ∧
        (b = false → d' = d ∧ ∀ j, j < k → d.getD (es.getD j (0, 0)).1 0 + 1 ≤ d.getD (es.getD j (0, 0)).2 0) ∧ (b = true → slack N d' < slack N d) ∧ St Try.prog H H' [⟨w, 1, d'.map (.int .i64)⟩]) es.length ?_ ?_
    · repeat first | (with_reducible first | refine Wp.seq ?_ | refine Wp.reg ?_ | refine Wp.block ?_ | refine Wp.skip ?_ | refine Wp.ret ?_ | refine Wp.exit ?_ | refine Wp.label ?_ | refine Wp.condG ?_) | simp (disch := omega) only [↓RP, RQ, TS, TR, ↓reduceIte, Nat.reduceEqDiff, Nat.reduceLT, Nat.reduceLeDiff, Int.reduceLT, Int.reduceLE, Int.reduceEq, Int.reduceAdd, Int.reduceSub, Int.reduceNeg, Int.reduceToNat, Nat.reduceAdd, Nat.reduceMul, Nat.reduceSub, reduceCtorEq, RC, hn, g0, g1, g5]
      exact ⟨false, d, 0, rfl, rfl, rfl, hR, fun _ => ⟨rfl, fun j hj => absurd hj (Nat.not_lt_zero _)⟩, (fun h => by cases h), hS⟩
    clear hS hn g0 g1 g5 g6
    rintro n3 l H' ⟨hn, g0, g1, g5, b, d', k, hk, g7, g6, hR', hbf, hbt, hS⟩
    have hv1 : Sl2 H' v _ _ es := hS.base hv
    have hw : Sl1 H' w (.int .i64) d' := hS.rd 0 rfl
    repeat first | (with_reducible first | refine Wp.seq ?_ | refine Wp.reg ?_ | refine Wp.block ?_ | refine Wp.skip ?_ | refine Wp.ret ?_ | refine Wp.exit ?_ | refine Wp.label ?_ | refine Wp.condG ?_) | simp (disch := omega) only [↓RP, RQ, TS, TR, ↓reduceIte, Nat.reduceEqDiff, Nat.reduceLT, Nat.reduceLeDiff, Int.reduceLT, Int.reduceLE, Int.reduceEq, Int.reduceAdd, Int.reduceSub, Int.reduceNeg, Int.reduceToNat, Nat.reduceAdd, Nat.reduceMul, Nat.reduceSub, reduceCtorEq, RC, hn, g0, g1, g5, g6, g7, hv1.len]
    refine condW_split (fun h3 => ?_) (fun h3 => ?_)
    · have hme := getD_mem (0, 0) (show k < es.length by omega)
      have hm := hval _ hme
      have hlen := hR'.len
      have hs1 := hR'.small hT hTN hm.1
      have hs2 := hR'.small hT hTN hm.2
      have hp1 := hR'.nonneg hm.1
      repeat first | (with_reducible first | refine Wp.seq ?_ | refine Wp.reg ?_ | refine Wp.block ?_ | refine Wp.skip ?_ | refine Wp.ret ?_ | refine Wp.exit ?_ | refine Wp.label ?_ | refine Wp.condG ?_) | with_reducible refine Wp.drw hmix (by kernel_rfl) ?_ | simp (disch := omega) only [↓RP, RQ, TS, TR, ↓reduceIte, Nat.reduceEqDiff, Nat.reduceLT, Nat.reduceLeDiff, Int.reduceLT, Int.reduceLE, Int.reduceEq, Int.reduceAdd, Int.reduceSub, Int.reduceNeg, Int.reduceToNat, Nat.reduceAdd, Nat.reduceMul, Nat.reduceSub, reduceCtorEq, RC, hn, g0, g1, g5, g6, g7, hv1.idx, hv1.fld, hv1.ld0 (0, 0), hv1.ld1 (0, 0), hw.idx, hw.ld 0, wrap_fit]
      refine condW_split (fun h4 => ?_) (fun h4 => ?_)
      · have hst := hR'.step hme hm.1 hm.2
        have hsl := slack_set N d' (es.getD k (0, 0)).2 (d'.getD (es.getD k (0, 0)).1 0 + 1) (by omega) (by omega) (by omega)
        repeat first | (with_reducible first | refine Wp.seq ?_ | refine Wp.reg ?_ | refine Wp.block ?_ | refine Wp.skip ?_ | refine Wp.ret ?_ | refine Wp.exit ?_ | refine Wp.label ?_ | refine Wp.condG ?_) | with_reducible refine Wp.drw hmix (by kernel_rfl) ?_ | simp (disch := omega) only [↓RP, RQ, TS, TR, ↓reduceIte, Nat.reduceEqDiff, Nat.reduceLT, Nat.reduceLeDiff, Int.reduceLT, Int.reduceLE, Int.reduceEq, Int.reduceAdd, Int.reduceSub, Int.reduceNeg, Int.reduceToNat, Nat.reduceAdd, Nat.reduceMul, Nat.reduceSub, reduceCtorEq, RC, hn, g0, g1, g5, g6, g7, hv1.idx, hv1.fld, hv1.ld0 (0, 0), hv1.ld1 (0, 0), hw.idx, hw.ld 0, wrap_fit]
        refine hS.eStoreE 0 rfl [_] rfl rfl tS3 (by simp) (by simp only [List.length_map, List.length_cons, List.length_nil]; omega) fun H5 hS => ?_
        simp only [List.nil_append, List.cons_append, List.append_nil, List.set_cons_zero, List.set_cons_succ, setMany_cons, setMany_nil, Nat.zero_add, Nat.mul_one, Nat.add_zero] at hS
        rw [← List.map_set] at hS
        repeat first | (with_reducible first | refine Wp.seq ?_ | refine Wp.reg ?_ | refine Wp.block ?_ | refine Wp.skip ?_ | refine Wp.ret ?_ | refine Wp.exit ?_ | refine Wp.label ?_ | refine Wp.condG ?_) | simp (disch := omega) only [↓RP, RQ, TS, TR, ↓reduceIte, Nat.reduceEqDiff, Nat.reduceLT, Nat.reduceLeDiff, Int.reduceLT, Int.reduceLE, Int.reduceEq, Int.reduceAdd, Int.reduceSub, Int.reduceNeg, Int.reduceToNat, Nat.reduceAdd, Nat.reduceMul, Nat.reduceSub, reduceCtorEq, RC, hn, g0, g1, g5, g7, wrap_fit]
        refine ⟨n3 - 1, by omega, true, _, k + 1, by omega, rfl, rfl, hst, (fun h => by cases h), (fun _ => ?_), hS⟩
        cases b with
        | true => exact Nat.lt_trans hsl (hbt rfl)
        | false => rw [(hbf rfl).1] at hsl ⊢; exact hsl
      · repeat first | (with_reducible first | refine Wp.seq ?_ | refine Wp.reg ?_ | refine Wp.block ?_ | refine Wp.skip ?_ | refine Wp.ret ?_ | refine Wp.exit ?_ | refine Wp.label ?_ | refine Wp.condG ?_) | simp (disch := omega) only [↓RP, RQ, TS, TR, ↓reduceIte, Nat.reduceEqDiff, Nat.reduceLT, Nat.reduceLeDiff, Int.reduceLT, Int.reduceLE, Int.reduceEq, Int.reduceAdd, Int.reduceSub, Int.reduceNeg, Int.reduceToNat, Nat.reduceAdd, Nat.reduceMul, Nat.reduceSub, reduceCtorEq, RC, hn, g0, g1, g5, g6, g7, wrap_fit]
        refine ⟨n3 - 1, by omega, b, d', k + 1, by omega, rfl, rfl, hR', (fun h => ?_), hbt, hS⟩
        obtain ⟨e1, e2⟩ := hbf h
        subst e1
        refine ⟨rfl, fun j hj => ?_⟩
        by_cases e : j = k
        · subst e; omega
        · exact e2 j (by omega)
    · repeat first | (with_reducible first | refine Wp.seq ?_ | refine Wp.reg ?_ | refine Wp.block ?_ | refine Wp.skip ?_ | refine Wp.ret ?_ | refine Wp.exit ?_ | refine Wp.label ?_ | refine Wp.condG ?_) | simp (disch := omega) only [↓RP, RQ, TS, TR, ↓reduceIte, Nat.reduceEqDiff, Nat.reduceLT, Nat.reduceLeDiff, Int.reduceLT, Int.reduceLE, Int.reduceEq, Int.reduceAdd, Int.reduceSub, Int.reduceNeg, Int.reduceToNat, Nat.reduceAdd, Nat.reduceMul, Nat.reduceSub, reduceCtorEq, RC, hn, g0, g1, g5, g6, g7]
      cases b with
      | true =>
        have := hbt rfl
        refine ⟨_, ?_, true, d', rfl, rfl, hR', (fun h => by cases h), hS⟩
        rw [hn2]
        simp
        omega
      | false =>
        obtain ⟨e1, e2⟩ := hbf rfl
        subst e1
        refine ⟨_, ?_, false, d', rfl, rfl, hR', (fun _ e he => ?_), hS⟩
        · rw [hn2]; simp
        · obtain ⟨j, hj, rfl⟩ := List.getElem_of_mem he
          have := e2 j (by omega)
          have hje : es.getD j (0, 0) = es[j] := by rw [List.getD_eq_getElem?_getD, List.getElem?_eq_getElem hj]; rfl
          rw [hje] at this
          exact this
  · subst hbf
    repeat first | (with_reducible first | refine Wp.seq ?_ | refine Wp.reg ?_ | refine Wp.block ?_ | refine Wp.skip ?_ | refine Wp.ret ?_ | refine Wp.exit ?_ | refine Wp.label ?_ | refine Wp.condG ?_) | simp (disch := omega) only [↓RP, RQ, TS, TR, ↓reduceIte, Nat.reduceEqDiff, Nat.reduceLT, Nat.reduceLeDiff, Int.reduceLT, Int.reduceLE, Int.reduceEq, Int.reduceAdd, Int.reduceSub, Int.reduceNeg, Int.reduceToNat, Nat.reduceAdd, Nat.reduceMul, Nat.reduceSub, reduceCtorEq, RC, hn, g0, g1, g5, g6]
    exact ⟨d, ⟨hR, hb rfl⟩, hS⟩
end Go.Ds

namespace Go.Ds
open Go.Proofs Go.Plain
variable {H : Heap} {P : Program}

/-- The greater of two. -/
noncomputable def maxV (P : Program) (ts : Array TypeId) (ty : TypeId) (x y : Value) : Option Value := (plainD P ⟨none, .call { callee := .builtin .max, args := #[.tmp 0, .tmp 1], argTypes := ts }, ty, "", #[], none⟩ [x, y] .nil).map (·.1)
theorem opW_max (d ty pos af g) (ts : Array TypeId) (p q : Tmp) (l : List Value) (K : Value → Heap → Prop) :
    opW P ⟨d, .call { callee := .builtin .max, args := #[.tmp p, .tmp q], argTypes := ts }, ty, pos, af, g⟩ l H K = opdW (.tmp p) l fun x => opdW (.tmp q) l fun y => bindV (maxV P ts ty x y) fun v => K v H := by
  have h : opD P ⟨d, .call { callee := .builtin .max, args := #[.tmp p, .tmp q], argTypes := ts }, ty, pos, af, g⟩ l H = (maxV P ts ty (ev l (.tmp p)) (ev l (.tmp q))).map fun v => (v, H) :=
    plain_fst (P := P) ⟨d, .call { callee := .builtin .max, args := #[.tmp p, .tmp q], argTypes := ts }, ty, pos, af, g⟩ ⟨none, .call { callee := .builtin .max, args := #[.tmp 0, .tmp 1], argTypes := ts }, ty, "", #[], none⟩ l [ev l (.tmp p), ev l (.tmp q)] H rfl (by kernel_rfl)
  have h2 : bindW ((maxV P ts ty (ev l (.tmp p)) (ev l (.tmp q))).map fun v => (v, H)) K = bindV (maxV P ts ty (ev l (.tmp p)) (ev l (.tmp q))) fun v => K v H := by cases maxV P ts ty (ev l (.tmp p)) (ev l (.tmp q)) <;> rfl
  simp only [opW, h, opdW, Op.operands, Call.operands, h2]
  simp [and_assoc]
theorem maxV_int (ts : Array TypeId) (ty : TypeId) (a b : Int) : maxV P ts ty (I a) (I b) = some (I (max a b)) := by
  have h : maxV P ts ty (I a) (I b) = some (I (if b > a then b else a)) := by kernel_rfl
  rw [h]
  congr 2
  split <;> omega

theorem longest_ok (N : Nat) (v : Value) (es : List (Nat × Nat)) (hv : Eg H v es) (hN : N ≤ 200) (he : es.length ≤ 1000) (hval : ∀ e ∈ es, e.1 < N ∧ e.2 < N) :
    Fn Try.prog 22 [.agg #[I N, v]] H fun r H' => ∃ out : List Nat, Top es N out ∧ ((out.length = N ∧ ∃ (w : Value) (d : List Int), IsL es N d ∧ r = .tuple #[w, I 0] ∧ St Try.prog H H' [⟨w, 1, d.map (.int .i64)⟩]) ∨
      (out.length < N ∧ (∀ i, i < N → ¬ rdy es out i) ∧ r = .tuple #[.slice none 0 0, I 22] ∧ St Try.prog H H' [])) := by
  refine Fn.of_wp (fn := Try.f22) rfl rfl (by kernel_rfl) fun l hl => ?_
  have hn : l.length = 53 := by rw [hl]; rfl
  have g0 : get l 0 = .agg #[I N, v] := by rw [hl]; rfl
  clear hl
  repeat first | (with_reducible first | refine Wp.seq ?_ | refine Wp.reg ?_ | refine Wp.block ?_ | refine Wp.skip ?_ | refine Wp.ret ?_ | refine Wp.exit ?_ | refine Wp.label ?_ | refine Wp.condG ?_) | simp (disch := omega) only [↓RP, RQ, TS, TR, ↓reduceIte, Nat.reduceEqDiff, Nat.reduceLT, Nat.reduceLeDiff, Int.reduceLT, Int.reduceLE, Int.reduceEq, Int.reduceAdd, Int.reduceSub, Int.reduceNeg, Int.reduceToNat, Nat.reduceAdd, Nat.reduceMul, Nat.reduceSub, reduceCtorEq, RC, hn, g0]
  refine (St.refl _ H).eNew 2 [I N, v] rfl rfl (by simp [hv.one]; rfl) tS27 fun A H1 hS => ?_
  repeat first | (with_reducible first | refine Wp.seq ?_ | refine Wp.reg ?_ | refine Wp.block ?_ | refine Wp.skip ?_ | refine Wp.ret ?_ | refine Wp.exit ?_ | refine Wp.label ?_ | refine Wp.condG ?_) | simp (disch := omega) only [↓RP, RQ, TS, TR, ↓reduceIte, Nat.reduceEqDiff, Nat.reduceLT, Nat.reduceLeDiff, Int.reduceLT, Int.reduceLE, Int.reduceEq, Int.reduceAdd, Int.reduceSub, Int.reduceNeg, Int.reduceToNat, Nat.reduceAdd, Nat.reduceMul, Nat.reduceSub, reduceCtorEq, RC, hn, g0, hS.ldA 0 rfl]
  refine callFW_of (order_ok N v es (hS.base hv) hN he hval) ?_
  rintro r H2 ⟨out, w, hT, ⟨hoN, rfl, hS2⟩ | ⟨hlt, hst, rfl, hS2⟩⟩
  · have hS := hS.trans hS2
    simp only [List.nil_append, List.cons_append, List.append_nil, List.set_cons_zero, List.set_cons_succ, setMany_cons, setMany_nil, Nat.zero_add, Nat.mul_one, Nat.add_zero] at hS
    repeat first | (with_reducible first | refine Wp.seq ?_ | refine Wp.reg ?_ | refine Wp.block ?_ | refine Wp.skip ?_ | refine Wp.ret ?_ | refine Wp.exit ?_ | refine Wp.label ?_ | refine Wp.condG ?_) | simp (disch := omega) only [↓RP, RQ, TS, TR, ↓reduceIte, Nat.reduceEqDiff, Nat.reduceLT, Nat.reduceLeDiff, Int.reduceLT, Int.reduceLE, Int.reduceEq, Int.reduceAdd, Int.reduceSub, Int.reduceNeg, Int.reduceToNat, Nat.reduceAdd, Nat.reduceMul, Nat.reduceSub, reduceCtorEq, RC, hn, g0, hS.ld 0 rfl]
    refine hS.eMake1 N tM29 (by omega) fun w2 H3 hS => ?_
    repeat first | (with_reducible first | refine Wp.seq ?_ | refine Wp.reg ?_ | refine Wp.block ?_ | refine Wp.skip ?_ | refine Wp.ret ?_ | refine Wp.exit ?_ | refine Wp.label ?_ | refine Wp.condG ?_) | simp (disch := omega) only [↓RP, RQ, TS, TR, ↓reduceIte, Nat.reduceEqDiff, Nat.reduceLT, Nat.reduceLeDiff, Int.reduceLT, Int.reduceLE, Int.reduceEq, Int.reduceAdd, Int.reduceSub, Int.reduceNeg, Int.reduceToNat, Nat.reduceAdd, Nat.reduceMul, Nat.reduceSub, reduceCtorEq, RC, hn, g0]
    refine hS.eNew 1 [.slice none 0 0] rfl rfl rfl tS29 fun D H4 hS => ?_
    have hw := (hS.rd 2 rfl).cells
    repeat first | (with_reducible first | refine Wp.seq ?_ | refine Wp.reg ?_ | refine Wp.block ?_ | refine Wp.skip ?_ | refine Wp.ret ?_ | refine Wp.exit ?_ | refine Wp.label ?_ | refine Wp.condG ?_) | simp (disch := omega) only [↓RP, RQ, TS, TR, ↓reduceIte, Nat.reduceEqDiff, Nat.reduceLT, Nat.reduceLeDiff, Int.reduceLT, Int.reduceLE, Int.reduceEq, Int.reduceAdd, Int.reduceSub, Int.reduceNeg, Int.reduceToNat, Nat.reduceAdd, Nat.reduceMul, Nat.reduceSub, reduceCtorEq, RC, hn, g0]
    refine hS.eStore 3 rfl [w2] (by rw [hw.1]) (by simp [hw.2.1]) tS29 (by simp) fun H5 hS => ?_
    simp only [List.nil_append, List.cons_append, List.append_nil, List.set_cons_zero, List.set_cons_succ, setMany_cons, setMany_nil, Nat.zero_add, Nat.mul_one, Nat.add_zero] at hS
    rw [show List.replicate N (Value.int .i64 0) = (List.replicate N (0 : Int)).map (.int .i64) from by simp] at hS
    have hov : Sl1 H5 w (fun n : Nat => I n) out := hS.rd 1 rfl
    repeat first | (with_reducible first | refine Wp.seq ?_ | refine Wp.reg ?_ | refine Wp.block ?_ | refine Wp.skip ?_ | refine Wp.ret ?_ | refine Wp.exit ?_ | refine Wp.label ?_ | refine Wp.condG ?_) | simp (disch := omega) only [↓RP, RQ, TS, TR, ↓reduceIte, Nat.reduceEqDiff, Nat.reduceLT, Nat.reduceLeDiff, Int.reduceLT, Int.reduceLE, Int.reduceEq, Int.reduceAdd, Int.reduceSub, Int.reduceNeg, Int.reduceToNat, Nat.reduceAdd, Nat.reduceMul, Nat.reduceSub, reduceCtorEq, RC, hn, g0, hov.len]
    refine Wp.loopN (fun n l H' => l.length = 53 ∧ get l 1 = ptr A 0 2 ∧ get l 6 = ptr D 0 1 ∧ get l 22 = w ∧ get l 23 = I out.length ∧ ∃ (i : Nat) (d : List Int), n + i = out.length ∧ get l 24 = I i ∧ Ls es N d ∧
      (∀ e ∈ es, e.1 ∈ out.take i → d.getD e.1 0 + 1 ≤ d.getD e.2 0) ∧
      St Try.prog H H' [⟨ptr A 0 2, 0, [I N, v]⟩, ⟨w, 1, nts out⟩, ⟨w2, 1, d.map (.int .i64)⟩, ⟨ptr D 0 1, 0, [w2]⟩]) out.length ?_ ?_
    · repeat first | (with_reducible first | refine Wp.seq ?_ | refine Wp.reg ?_ | refine Wp.block ?_ | refine Wp.skip ?_ | refine Wp.ret ?_ | refine Wp.exit ?_ | refine Wp.label ?_ | refine Wp.condG ?_) | simp (disch := omega) only [↓RP, RQ, TS, TR, ↓reduceIte, Nat.reduceEqDiff, Nat.reduceLT, Nat.reduceLeDiff, Int.reduceLT, Int.reduceLE, Int.reduceEq, Int.reduceAdd, Int.reduceSub, Int.reduceNeg, Int.reduceToNat, Nat.reduceAdd, Nat.reduceMul, Nat.reduceSub, reduceCtorEq, RC, hn, g0]
      exact ⟨0, _, rfl, rfl, .zero es N, (fun e _ h => by cases h), hS⟩
    clear hS hS2 hn g0 hov hw
    rintro n l H' ⟨hn, g1, g6, g22, g23, i, d, hi, g24, hL, hold, hS⟩
    have hov : Sl1 H' w (fun n : Nat => I n) out := hS.rd 1 rfl
    repeat first | (with_reducible first | refine Wp.seq ?_ | refine Wp.reg ?_ | refine Wp.block ?_ | refine Wp.skip ?_ | refine Wp.ret ?_ | refine Wp.exit ?_ | refine Wp.label ?_ | refine Wp.condG ?_) | simp (disch := omega) only [↓RP, RQ, TS, TR, ↓reduceIte, Nat.reduceEqDiff, Nat.reduceLT, Nat.reduceLeDiff, Int.reduceLT, Int.reduceLE, Int.reduceEq, Int.reduceAdd, Int.reduceSub, Int.reduceNeg, Int.reduceToNat, Nat.reduceAdd, Nat.reduceMul, Nat.reduceSub, reduceCtorEq, RC, hn, g1, g6, g22, g23, g24]
    refine condW_split (fun h => ?_) (fun h => ?_)
    · have hil : i < out.length := by omega
      obtain ⟨hxN, hrx⟩ := hT.at hil
      repeat first | (with_reducible first | refine Wp.seq ?_ | refine Wp.reg ?_ | refine Wp.block ?_ | refine Wp.skip ?_ | refine Wp.ret ?_ | refine Wp.exit ?_ | refine Wp.label ?_ | refine Wp.condG ?_) | simp (disch := omega) only [↓RP, RQ, TS, TR, ↓reduceIte, Nat.reduceEqDiff, Nat.reduceLT, Nat.reduceLeDiff, Int.reduceLT, Int.reduceLE, Int.reduceEq, Int.reduceAdd, Int.reduceSub, Int.reduceNeg, Int.reduceToNat, Nat.reduceAdd, Nat.reduceMul, Nat.reduceSub, reduceCtorEq, RC, hn, g1, g6, g22, g23, g24, hov.idx, hov.ld 0]
      generalize hxe : out.getD i 0 = x at hxN hrx ⊢
      refine hS.eNew 1 [I 0] rfl rfl rfl tS3 fun C H2 hS => ?_
      repeat first | (with_reducible first | refine Wp.seq ?_ | refine Wp.reg ?_ | refine Wp.block ?_ | refine Wp.skip ?_ | refine Wp.ret ?_ | refine Wp.exit ?_ | refine Wp.label ?_ | refine Wp.condG ?_) | simp (disch := omega) only [↓RP, RQ, TS, TR, ↓reduceIte, Nat.reduceEqDiff, Nat.reduceLT, Nat.reduceLeDiff, Int.reduceLT, Int.reduceLE, Int.reduceEq, Int.reduceAdd, Int.reduceSub, Int.reduceNeg, Int.reduceToNat, Nat.reduceAdd, Nat.reduceMul, Nat.reduceSub, reduceCtorEq, RC, hn, g1, g6, g22, g23, g24]
      refine hS.eStore 4 rfl [_] rfl rfl tS3 (by simp) fun H3 hS => ?_
      simp only [List.nil_append, List.cons_append, List.append_nil, List.set_cons_zero, List.set_cons_succ, setMany_cons, setMany_nil, Nat.zero_add, Nat.mul_one, Nat.add_zero] at hS
      repeat first | (with_reducible first | refine Wp.seq ?_ | refine Wp.reg ?_ | refine Wp.block ?_ | refine Wp.skip ?_ | refine Wp.ret ?_ | refine Wp.exit ?_ | refine Wp.label ?_ | refine Wp.condG ?_) | simp (disch := omega) only [↓RP, RQ, TS, TR, ↓reduceIte, Nat.reduceEqDiff, Nat.reduceLT, Nat.reduceLeDiff, Int.reduceLT, Int.reduceLE, Int.reduceEq, Int.reduceAdd, Int.reduceSub, Int.reduceNeg, Int.reduceToNat, Nat.reduceAdd, Nat.reduceMul, Nat.reduceSub, reduceCtorEq, RC, hn, g1, g6, g22, g23, g24, hS.ldA 0 rfl, hS.ld 4 rfl]
      refine callFW_of (out1_ok N x v hv.one) ?_
      rintro r H6 ⟨Ag, An, rfl, hS2⟩
      have hS := hS.trans hS2
      simp only [List.nil_append, List.cons_append, List.append_nil, List.set_cons_zero, List.set_cons_succ, setMany_cons, setMany_nil, Nat.zero_add, Nat.mul_one, Nat.add_zero] at hS
      repeat first | (with_reducible first | refine Wp.seq ?_ | refine Wp.reg ?_ | refine Wp.block ?_ | refine Wp.skip ?_ | refine Wp.ret ?_ | refine Wp.exit ?_ | refine Wp.label ?_ | refine Wp.condG ?_) | simp (disch := omega) only [↓RP, RQ, TS, TR, ↓reduceIte, Nat.reduceEqDiff, Nat.reduceLT, Nat.reduceLeDiff, Int.reduceLT, Int.reduceLE, Int.reduceEq, Int.reduceAdd, Int.reduceSub, Int.reduceNeg, Int.reduceToNat, Nat.reduceAdd, Nat.reduceMul, Nat.reduceSub, reduceCtorEq, RC, hn, g1, g6, g22, g23, g24]
      refine Wp.slots fun l' hl' => ?_
      have hn' : l'.length = 53 := by rw [hl']; simp (disch := omega) only [↓RP, RQ, TS, TR, ↓reduceIte, Nat.reduceEqDiff, Nat.reduceLT, Nat.reduceLeDiff, Int.reduceLT, Int.reduceLE, Int.reduceEq, Int.reduceAdd, Int.reduceSub, Int.reduceNeg, Int.reduceToNat, Nat.reduceAdd, Nat.reduceMul, Nat.reduceSub, reduceCtorEq, RC, hn]
      have g1' : get l' 1 = ptr A 0 2 := by rw [hl']; simp (disch := omega) only [↓RP, RQ, TS, TR, ↓reduceIte, Nat.reduceEqDiff, Nat.reduceLT, Nat.reduceLeDiff, Int.reduceLT, Int.reduceLE, Int.reduceEq, Int.reduceAdd, Int.reduceSub, Int.reduceNeg, Int.reduceToNat, Nat.reduceAdd, Nat.reduceMul, Nat.reduceSub, reduceCtorEq, RC, hn, g1]
      have g6' : get l' 6 = ptr D 0 1 := by rw [hl']; simp (disch := omega) only [↓RP, RQ, TS, TR, ↓reduceIte, Nat.reduceEqDiff, Nat.reduceLT, Nat.reduceLeDiff, Int.reduceLT, Int.reduceLE, Int.reduceEq, Int.reduceAdd, Int.reduceSub, Int.reduceNeg, Int.reduceToNat, Nat.reduceAdd, Nat.reduceMul, Nat.reduceSub, reduceCtorEq, RC, hn, g6]
      have g8' : get l' 8 = ptr C 0 1 := by rw [hl']; simp (disch := omega) only [↓RP, RQ, TS, TR, ↓reduceIte, Nat.reduceEqDiff, Nat.reduceLT, Nat.reduceLeDiff, Int.reduceLT, Int.reduceLE, Int.reduceEq, Int.reduceAdd, Int.reduceSub, Int.reduceNeg, Int.reduceToNat, Nat.reduceAdd, Nat.reduceMul, Nat.reduceSub, reduceCtorEq, RC, hn]
      have g22' : get l' 22 = w := by rw [hl']; simp (disch := omega) only [↓RP, RQ, TS, TR, ↓reduceIte, Nat.reduceEqDiff, Nat.reduceLT, Nat.reduceLeDiff, Int.reduceLT, Int.reduceLE, Int.reduceEq, Int.reduceAdd, Int.reduceSub, Int.reduceNeg, Int.reduceToNat, Nat.reduceAdd, Nat.reduceMul, Nat.reduceSub, reduceCtorEq, RC, hn, g22]
      have g23' : get l' 23 = I out.length := by rw [hl']; simp (disch := omega) only [↓RP, RQ, TS, TR, ↓reduceIte, Nat.reduceEqDiff, Nat.reduceLT, Nat.reduceLeDiff, Int.reduceLT, Int.reduceLE, Int.reduceEq, Int.reduceAdd, Int.reduceSub, Int.reduceNeg, Int.reduceToNat, Nat.reduceAdd, Nat.reduceMul, Nat.reduceSub, reduceCtorEq, RC, hn, g23]
      have g24' : get l' 24 = I i := by rw [hl']; simp (disch := omega) only [↓RP, RQ, TS, TR, ↓reduceIte, Nat.reduceEqDiff, Nat.reduceLT, Nat.reduceLeDiff, Int.reduceLT, Int.reduceLE, Int.reduceEq, Int.reduceAdd, Int.reduceSub, Int.reduceNeg, Int.reduceToNat, Nat.reduceAdd, Nat.reduceMul, Nat.reduceSub, reduceCtorEq, RC, hn, g24]
      have g30' : get l' 30 = .func (.func 50) #[] [ptr Ag 0 2, ptr An 0 1].toArray := by rw [hl']; simp (disch := omega) only [↓RP, RQ, TS, TR, ↓reduceIte, Nat.reduceEqDiff, Nat.reduceLT, Nat.reduceLeDiff, Int.reduceLT, Int.reduceLE, Int.reduceEq, Int.reduceAdd, Int.reduceSub, Int.reduceNeg, Int.reduceToNat, Nat.reduceAdd, Nat.reduceMul, Nat.reduceSub, reduceCtorEq, RC, hn]
      clear hl' hn g1 g6 g22 g23 g24 hS2 hov
      refine Wp.rangeR g30' fun r hst hpd htm hps has hbd => ?_
      have hreq : ({ r with state := .ready, pending := none } : Loop) = r := by
        cases r
        simp only at hst hpd
        subst hst hpd
        rfl
      have hLp := Lp.enter hS r
      generalize H6.cons (.loop r) = Hc at hLp ⊢
      generalize H6.length = L at hLp ⊢
      clear hS
      have hj0 : Lj es N (out.take i) x 0 d := ⟨hL, hold, (fun e h _ => by cases h)⟩
      refine (out_ok N x v es he Ag An (.func (.yield L) #[] #[])
        (fun j H1 => ∃ dd, Lj es N (out.take i) x j dd ∧ Lp Try.prog H L r H1 [⟨ptr A 0 2, 0, [I N, v]⟩, ⟨w, 1, nts out⟩, ⟨w2, 1, dd.map (.int .i64)⟩, ⟨ptr D 0 1, 0, [w2]⟩, ⟨ptr C 0 1, 0, [I x]⟩, ⟨ptr Ag 0 2, 0, [I N, v]⟩, ⟨ptr An 0 1, 0, [I x]⟩])
        (fun _ => False) ⟨_, hj0, hLp⟩ ?_ ?_ ?_ ?_).mono ?_
      · rintro j H1 ⟨dd, _, h1⟩
        exact ⟨h1.st.var 5 rfl, h1.st.var 6 rfl, h1.st.base hv⟩
      · rintro j H1 H2 ⟨dd, h1, h2⟩ h3
        exact ⟨dd, h1, by simpa using h2.ext h3⟩
      · rintro j H1 hj hne ⟨dd, h1, h2⟩
        exact ⟨dd, h1.skip hj hne, h2⟩
      · rintro j H1 hj hja ⟨dd, hJ, h1⟩
        have hme := getD_mem (0, 0) hj
        have hm := hval _ hme
        have ht1 : (es.getD j (0, 0)).2 ≠ x := by
          intro hh
          have := hrx.2 _ hme hh
          rw [hja] at this
          exact hrx.1 this
        have ht2 : (es.getD j (0, 0)).2 ∉ out.take i := by
          intro hh
          have := (hT.take i).pred _ hme hh
          rw [hja] at this
          exact hrx.1 this
        have hjl := hJ.len
        have hs1 := hJ.toLs.small hT hoN hxN
        have hs2 := hJ.toLs.nonneg hxN
        have hJ2 := hJ.top hj hja hval ht1 ht2
        refine callW_yield h1.get (by rw [hps]; rfl) hst ?_
        refine Wp.of_eq (l := put l' (some 31) (I j)) has (by rw [hps, htm]; exact (setL_eq ..).symm) ?_
        repeat first | (with_reducible first | refine Wp.seq ?_ | refine Wp.reg ?_ | refine Wp.block ?_ | refine Wp.skip ?_ | refine Wp.ret ?_ | refine Wp.exit ?_ | refine Wp.label ?_ | refine Wp.condG ?_) | simp (disch := omega) only [↓RP, RQ, TS, TR, ↓reduceIte, Nat.reduceEqDiff, Nat.reduceLT, Nat.reduceLeDiff, Int.reduceLT, Int.reduceLE, Int.reduceEq, Int.reduceAdd, Int.reduceSub, Int.reduceNeg, Int.reduceToNat, Nat.reduceAdd, Nat.reduceMul, Nat.reduceSub, reduceCtorEq, RC, hn']
        refine ⟨r, h1.get, hst, ?_⟩
        have hB := h1.set (fun h => h) { r with state := .busy }
        generalize hset H1 L (.loop { r with state := .busy }) = Hb at hB ⊢
        refine Wp.of_eq hbd rfl ?_
        have hS := hB.st.rebase
        have hv1 : Sl2 Hb v _ _ es := hB.st.base hv
        have hd1 : Sl1 Hb w2 (.int .i64) dd := hS.rd 2 rfl
        repeat first | (with_reducible first | refine Wp.seq ?_ | refine Wp.reg ?_ | refine Wp.block ?_ | refine Wp.skip ?_ | refine Wp.ret ?_ | refine Wp.exit ?_ | refine Wp.label ?_ | refine Wp.condG ?_) | with_reducible refine Wp.drw hmix (by kernel_rfl) ?_ | simp (disch := omega) only [↓RP, RQ, TS, TR, ↓reduceIte, Nat.reduceEqDiff, Nat.reduceLT, Nat.reduceLeDiff, Int.reduceLT, Int.reduceLE, Int.reduceEq, Int.reduceAdd, Int.reduceSub, Int.reduceNeg, Int.reduceToNat, Nat.reduceAdd, Nat.reduceMul, Nat.reduceSub, reduceCtorEq, RC, hn', g1', g6', g8', hS.ld 0 rfl, hS.ld 3 rfl, hS.ld 4 rfl, hv1.idx, hv1.fld, hv1.ld1 (0, 0), hd1.idx, hd1.ld 0, ↓opW_max, maxV_int, wrap_fit]
        refine hS.eStoreE 2 rfl [_] rfl rfl tS3 (by simp) (by simp only [List.length_map, List.length_cons, List.length_nil]; omega) fun H8 hS => ?_
        simp only [List.nil_append, List.cons_append, List.append_nil, List.set_cons_zero, List.set_cons_succ, setMany_cons, setMany_nil, Nat.zero_add, Nat.mul_one, Nat.add_zero] at hS
        rw [← List.map_set] at hS
        repeat first | (with_reducible first | refine Wp.seq ?_ | refine Wp.reg ?_ | refine Wp.block ?_ | refine Wp.skip ?_ | refine Wp.ret ?_ | refine Wp.exit ?_ | refine Wp.label ?_ | refine Wp.condG ?_) | simp (disch := omega) only [↓RP, RQ, TS, TR, ↓reduceIte, Nat.reduceEqDiff, Nat.reduceLT, Nat.reduceLeDiff, Int.reduceLT, Int.reduceLE, Int.reduceEq, Int.reduceAdd, Int.reduceSub, Int.reduceNeg, Int.reduceToNat, Nat.reduceAdd, Nat.reduceMul, Nat.reduceSub, reduceCtorEq, RC, hn', g1', g6', g8']
        have hB2 := hB.body hS
        refine ⟨_, hB2.get, true, rfl, (fun _ => ⟨_, hJ2, ?_⟩), (fun h => by cases h)⟩
        have := hB2.set (fun h => h) r
        rw [← hreq] at this
        exact hreq ▸ this
      · rintro _ H7 (⟨dd, hJ, h1⟩ | hf)
        · refine ⟨_, h1.get, (by rw [hst]; intro h; cases h), (fun _ => ?_), (fun c hc => by rw [hpd] at hc; cases hc)⟩
          have hB := h1.set (fun h => h) { r with state := .exhausted }
          have hS := hB.st
          generalize hset H7 L (.loop { r with state := .exhausted }) = H8 at hS ⊢
          repeat first | (with_reducible first | refine Wp.seq ?_ | refine Wp.reg ?_ | refine Wp.block ?_ | refine Wp.skip ?_ | refine Wp.ret ?_ | refine Wp.exit ?_ | refine Wp.label ?_ | refine Wp.condG ?_) | simp (disch := omega) only [↓RP, RQ, TS, TR, ↓reduceIte, Nat.reduceEqDiff, Nat.reduceLT, Nat.reduceLeDiff, Int.reduceLT, Int.reduceLE, Int.reduceEq, Int.reduceAdd, Int.reduceSub, Int.reduceNeg, Int.reduceToNat, Nat.reduceAdd, Nat.reduceMul, Nat.reduceSub, reduceCtorEq, RC, hn', g1', g6', g8', g22', g23', g24', wrap_fit]
          refine ⟨n - 1, by omega, i + 1, dd, by omega, rfl, hJ.toLs, ?_, hS.sub ?_⟩
          · rw [take_succ_getD' out i 0 hil, hxe]
            exact hJ.shut
          · exact .cons_cons _ (.cons_cons _ (.cons_cons _ (.cons_cons _ (.cons _ (.cons _ (.cons _ (.refl _)))))))
        · exact hf.elim
    · have hie : i = out.length := by omega
      subst hie
      have ho := hS.rd 2 rfl
      repeat first | (with_reducible first | refine Wp.seq ?_ | refine Wp.reg ?_ | refine Wp.block ?_ | refine Wp.skip ?_ | refine Wp.ret ?_ | refine Wp.exit ?_ | refine Wp.label ?_ | refine Wp.condG ?_) | simp (disch := omega) only [↓RP, RQ, TS, TR, ↓reduceIte, Nat.reduceEqDiff, Nat.reduceLT, Nat.reduceLeDiff, Int.reduceLT, Int.reduceLE, Int.reduceEq, Int.reduceAdd, Int.reduceSub, Int.reduceNeg, Int.reduceToNat, Nat.reduceAdd, Nat.reduceMul, Nat.reduceSub, reduceCtorEq, RC, hn, g1, g6, g22, g23, g24, hS.ld 3 rfl, ho.noTuple]
      refine ⟨out, hT, .inl ⟨hoN, w2, d, ⟨hL, fun e hem => hold e hem ?_⟩, rfl, hS.sub (.cons _ (.cons _ (.cons_cons _ (.cons _ (.refl _)))))⟩⟩
      rw [List.take_length]
      exact nodup_all hT.nodup hT.lt hoN _ (hval e hem).1
  · have hS := hS.trans hS2
    simp only [List.nil_append, List.cons_append, List.append_nil, List.set_cons_zero, List.set_cons_succ, setMany_cons, setMany_nil, Nat.zero_add, Nat.mul_one, Nat.add_zero] at hS
    repeat first | (with_reducible first | refine Wp.seq ?_ | refine Wp.reg ?_ | refine Wp.block ?_ | refine Wp.skip ?_ | refine Wp.ret ?_ | refine Wp.exit ?_ | refine Wp.label ?_ | refine Wp.condG ?_) | simp (disch := omega) only [↓RP, RQ, TS, TR, ↓reduceIte, Nat.reduceEqDiff, Nat.reduceLT, Nat.reduceLeDiff, Int.reduceLT, Int.reduceLE, Int.reduceEq, Int.reduceAdd, Int.reduceSub, Int.reduceNeg, Int.reduceToNat, Nat.reduceAdd, Nat.reduceMul, Nat.reduceSub, reduceCtorEq, RC, hn, g0]
    exact ⟨out, hT, .inr ⟨hlt, hst, hS.forget⟩⟩
end Go.Ds
/-
  Contracts: the reference's Cycle.
-/
namespace Go.Ds
open Go.Proofs Go.Plain
variable {H : Heap}

theorem refCycle_ok (N : Nat) (ev : Value) (es : List (Nat × Nat)) (hE : Eg H ev es) (hN : N ≤ 200) (he : es.length ≤ 1000) (hval : ∀ e ∈ es, e.1 < N ∧ e.2 < N) (hdN : ∀ k, k < es.length → dT es N 0 k ≤ N) (T : HasD es N) :
    Fn Try.prog 20 [I N, ev] H fun r H' => ∃ b : List Nat, Mst (cand es N) (fun i => dT es N 0 i) (fun i => cyc es N 0 i) es.length b ∧ b.length ≤ N + 1 ∧ St Try.prog H H' [⟨r, 1, nts b⟩] := by
  have hcl : ∀ i, i < es.length → cand es N i → ((cyc es N 0 i).length : Int) = dT es N 0 i + 1 := fun i hi h => (cyc_ch T (Nat.zero_le _) hi h.1).2.2
  refine Fn.of_wp (fn := Try.f20) rfl rfl (by kernel_rfl) fun l hl => ?_
  have hn : l.length = 106 := by rw [hl]; rfl
  have g0 : get l 0 = I N := by rw [hl]; rfl
  have g1 : get l 1 = ev := by rw [hl]; rfl
  clear hl
  repeat first | (with_reducible first | refine Wp.seq ?_ | refine Wp.reg ?_ | refine Wp.block ?_ | refine Wp.skip ?_ | refine Wp.ret ?_ | refine Wp.exit ?_ | refine Wp.label ?_ | refine Wp.condG ?_) | simp (disch := omega) only [↓RP, RQ, TS, TR, ↓reduceIte, Nat.reduceEqDiff, Nat.reduceLT, Nat.reduceLeDiff, Int.reduceLT, Int.reduceLE, Int.reduceEq, Int.reduceAdd, Int.reduceSub, Int.reduceNeg, Int.reduceToNat, Nat.reduceAdd, Nat.reduceMul, Nat.reduceSub, reduceCtorEq, RC, hn, g0, g1]
  refine callFW_of (steps_ok N ev es hE hN he hval) ?_
  rintro st H1 ⟨ws, rows, hrows, hS⟩
  have hS := (hS.nil 0).front
  repeat first | (with_reducible first | refine Wp.seq ?_ | refine Wp.reg ?_ | refine Wp.block ?_ | refine Wp.skip ?_ | refine Wp.ret ?_ | refine Wp.exit ?_ | refine Wp.label ?_ | refine Wp.condG ?_) | simp (disch := omega) only [↓RP, RQ, TS, TR, ↓reduceIte, Nat.reduceEqDiff, Nat.reduceLT, Nat.reduceLeDiff, Int.reduceLT, Int.reduceLE, Int.reduceEq, Int.reduceAdd, Int.reduceSub, Int.reduceNeg, Int.reduceToNat, Nat.reduceAdd, Nat.reduceMul, Nat.reduceSub, reduceCtorEq, RC, hn, g0, g1]
  refine Wp.loopN (fun n l H' => l.length = 106 ∧ get l 1 = ev ∧ get l 5 = st ∧ ∃ (k : Nat) (b : List Nat) (bv : Value), n + k = es.length ∧ get l 6 = bv ∧ get l 7 = I k ∧ Mst (cand es N) (fun i => dT es N 0 i) (fun i => cyc es N 0 i) k b ∧ b.length ≤ N + 1 ∧
    St Try.prog H H' (⟨bv, 1, nts b⟩ :: ⟨st, 1, (List.range N).map ws⟩ :: inner N ws rows)) es.length ?_ ?_
  · repeat first | (with_reducible first | refine Wp.seq ?_ | refine Wp.reg ?_ | refine Wp.block ?_ | refine Wp.skip ?_ | refine Wp.ret ?_ | refine Wp.exit ?_ | refine Wp.label ?_ | refine Wp.condG ?_) | simp (disch := omega) only [↓RP, RQ, TS, TR, ↓reduceIte, Nat.reduceEqDiff, Nat.reduceLT, Nat.reduceLeDiff, Int.reduceLT, Int.reduceLE, Int.reduceEq, Int.reduceAdd, Int.reduceSub, Int.reduceNeg, Int.reduceToNat, Nat.reduceAdd, Nat.reduceMul, Nat.reduceSub, reduceCtorEq, RC, hn, g0, g1]
    exact ⟨0, [], _, rfl, rfl, rfl, .first, by simp, hS⟩
  clear hS hn g0 g1
  rintro n l H' ⟨hn, g1, g5, k, b, bv, hk, g6, g7, hM, hbN, hS⟩
  have hv1 : Sl2 H' ev _ _ es := hS.base hE
  repeat first | (with_reducible first | refine Wp.seq ?_ | refine Wp.reg ?_ | refine Wp.block ?_ | refine Wp.skip ?_ | refine Wp.ret ?_ | refine Wp.exit ?_ | refine Wp.label ?_ | refine Wp.condG ?_) | simp (disch := omega) only [↓RP, RQ, TS, TR, ↓reduceIte, Nat.reduceEqDiff, Nat.reduceLT, Nat.reduceLeDiff, Int.reduceLT, Int.reduceLE, Int.reduceEq, Int.reduceAdd, Int.reduceSub, Int.reduceNeg, Int.reduceToNat, Nat.reduceAdd, Nat.reduceMul, Nat.reduceSub, reduceCtorEq, RC, hn, g1, g5, g6, g7, hv1.len]
  refine condW_split (fun h => ?_) (fun h => ?_)
  · have hkl : k < es.length := by omega
    have hm := hval _ (getD_mem (0, 0) hkl)
    have hd := T.at (first := 0) (Nat.zero_le _) hkl
    rw [List.drop_zero] at hd
    have hdk := hdN k hkl
    repeat first | (with_reducible first | refine Wp.seq ?_ | refine Wp.reg ?_ | refine Wp.block ?_ | refine Wp.skip ?_ | refine Wp.ret ?_ | refine Wp.exit ?_ | refine Wp.label ?_ | refine Wp.condG ?_) | simp (disch := omega) only [↓RP, RQ, TS, TR, ↓reduceIte, Nat.reduceEqDiff, Nat.reduceLT, Nat.reduceLeDiff, Int.reduceLT, Int.reduceLE, Int.reduceEq, Int.reduceAdd, Int.reduceSub, Int.reduceNeg, Int.reduceToNat, Nat.reduceAdd, Nat.reduceMul, Nat.reduceSub, reduceCtorEq, RC, hn, g1, g5, g6, g7]
    refine hS.eSlice [I k] tP29 tF29 rfl rfl (by simp [Value.cells]) rfl rfl (by decide) (by decide) fun cv H5 hS5 => ?_
    have hS5 := hS5.front
    have hv5 : Sl2 H5 ev _ _ es := hS5.base hE
    repeat first | (with_reducible first | refine Wp.seq ?_ | refine Wp.reg ?_ | refine Wp.block ?_ | refine Wp.skip ?_ | refine Wp.ret ?_ | refine Wp.exit ?_ | refine Wp.label ?_ | refine Wp.condG ?_) | with_reducible refine Wp.drw hmix (by kernel_rfl) ?_ | simp (disch := omega) only [↓RP, RQ, TS, TR, ↓reduceIte, Nat.reduceEqDiff, Nat.reduceLT, Nat.reduceLeDiff, Int.reduceLT, Int.reduceLE, Int.reduceEq, Int.reduceAdd, Int.reduceSub, Int.reduceNeg, Int.reduceToNat, Nat.reduceAdd, Nat.reduceMul, Nat.reduceSub, reduceCtorEq, RC, hn, g1, g5, g6, g7, hv5.idx, hv5.fld, hv5.ld0 (0, 0), hv5.ld1 (0, 0)]
    refine condW_cut (fun e l H2 => l.length = 106 ∧ get l 1 = ev ∧ get l 5 = st ∧ get l 6 = bv ∧ get l 7 = I k ∧
      ((e = .normal ∧ 0 ≤ dT es N 0 k ∧ ∃ cv, get l 8 = cv ∧ St Try.prog H H2 (⟨cv, 1, nts (cyc es N 0 k)⟩ :: ⟨bv, 1, nts b⟩ :: ⟨st, 1, (List.range N).map ws⟩ :: inner N ws rows)) ∨
       (e = .exit 1 ∧ ¬ 0 ≤ dT es N 0 k ∧ St Try.prog H H2 (⟨bv, 1, nts b⟩ :: ⟨st, 1, (List.range N).map ws⟩ :: inner N ws rows)))) ?_ ?_
    · refine condW_split (fun h3 => ?_) (fun h3 => ?_)
      · have hne : (es.getD k (0, 0)).2 ≠ (es.getD k (0, 0)).1 := fun e => h3 (by rw [e])
        have hst5 : Sl1 H5 st ws (List.range N) := hS5.rd 2 rfl
        have hrow5 : ∀ i, i < N → Sl1 H5 (ws i) (fun n : Nat => I n) (rows i) := fun i hi => hS5.rd (i + 3) (inner_get N ws rows i hi)
        have hr5 := hrow5 _ hm.2
        have hrl : (List.range N).length = N := List.length_range
        have hrlen := (hrows _ hm.2).len
        have hse := steps_eq hd hrows hm.1 hm.2 hne
        have hdT : dT es N 0 k = (dI es N 0 k).getD (es.getD k (0, 0)).2 0 := rfl
        repeat first | (with_reducible first | refine Wp.seq ?_ | refine Wp.reg ?_ | refine Wp.block ?_ | refine Wp.skip ?_ | refine Wp.ret ?_ | refine Wp.exit ?_ | refine Wp.label ?_ | refine Wp.condG ?_) | with_reducible refine Wp.drw hmix (by kernel_rfl) ?_ | simp (disch := omega) only [↓RP, RQ, TS, TR, ↓reduceIte, Nat.reduceEqDiff, Nat.reduceLT, Nat.reduceLeDiff, Int.reduceLT, Int.reduceLE, Int.reduceEq, Int.reduceAdd, Int.reduceSub, Int.reduceNeg, Int.reduceToNat, Nat.reduceAdd, Nat.reduceMul, Nat.reduceSub, reduceCtorEq, RC, hn, g1, g5, g6, g7, hv5.idx, hv5.fld, hv5.ld0 (0, 0), hv5.ld1 (0, 0), hst5.idx, hst5.ld 0, getD_range, hr5.idx, hr5.ld 0]
        refine condW_split (fun h4 => ?_) (fun h4 => ?_)
        · rw [if_pos (by omega)] at hse
          repeat first | (with_reducible first | refine Wp.seq ?_ | refine Wp.reg ?_ | refine Wp.block ?_ | refine Wp.skip ?_ | refine Wp.ret ?_ | refine Wp.exit ?_ | refine Wp.label ?_ | refine Wp.condG ?_) | simp (disch := omega) only [↓RP, RQ, TS, TR, ↓reduceIte, Nat.reduceEqDiff, Nat.reduceLT, Nat.reduceLeDiff, Int.reduceLT, Int.reduceLE, Int.reduceEq, Int.reduceAdd, Int.reduceSub, Int.reduceNeg, Int.reduceToNat, Nat.reduceAdd, Nat.reduceMul, Nat.reduceSub, reduceCtorEq, RC, hn, g1, g5, g6, g7]
          exact .inr ⟨by omega, hS5.tail⟩
        · rw [if_neg (by omega)] at hse
          repeat first | (with_reducible first | refine Wp.seq ?_ | refine Wp.reg ?_ | refine Wp.block ?_ | refine Wp.skip ?_ | refine Wp.ret ?_ | refine Wp.exit ?_ | refine Wp.label ?_ | refine Wp.condG ?_) | with_reducible refine Wp.drw hmix (by kernel_rfl) ?_ | simp (disch := omega) only [↓RP, RQ, TS, TR, ↓reduceIte, Nat.reduceEqDiff, Nat.reduceLT, Nat.reduceLeDiff, Int.reduceLT, Int.reduceLE, Int.reduceEq, Int.reduceAdd, Int.reduceSub, Int.reduceNeg, Int.reduceToNat, Nat.reduceAdd, Nat.reduceMul, Nat.reduceSub, reduceCtorEq, RC, hn, g1, g5, g6, g7, hv5.idx, hv5.fld, hv5.ld0 (0, 0), hv5.ld1 (0, 0)]
          refine callFW_of (refWalk_ok N ev st es ws rows (dI es N 0 k) (es.getD k (0, 0)).2 (es.getD k (0, 0)).1 (hS5.base hE) hst5 hrow5 hrows hd hval hm.2 hm.1 he hN (by omega) (by omega)) ?_
          rintro wr H6 hS6
          have hS6 := (hS5.trans hS6).front
          have hpl := pF_length es 0 (dI es N 0 k) ((dI es N 0 k).getD (es.getD k (0, 0)).2 0).toNat (es.getD k (0, 0)).2
          repeat first | (with_reducible first | refine Wp.seq ?_ | refine Wp.reg ?_ | refine Wp.block ?_ | refine Wp.skip ?_ | refine Wp.ret ?_ | refine Wp.exit ?_ | refine Wp.label ?_ | refine Wp.condG ?_) | simp (disch := omega) only [↓RP, RQ, TS, TR, ↓reduceIte, Nat.reduceEqDiff, Nat.reduceLT, Nat.reduceLeDiff, Int.reduceLT, Int.reduceLE, Int.reduceEq, Int.reduceAdd, Int.reduceSub, Int.reduceNeg, Int.reduceToNat, Nat.reduceAdd, Nat.reduceMul, Nat.reduceSub, reduceCtorEq, RC, hn, g1, g5, g6, g7]
          refine hS6.eAppend 1 rfl (hS6.rd 0 rfl) tP29 (by simp only [nts, List.length_map, List.length_cons, List.length_nil]; omega) fun cv' H7 hS7 => ?_
          simp only [List.nil_append, List.cons_append, List.append_nil, List.set_cons_zero, List.set_cons_succ, setMany_cons, setMany_nil, Nat.zero_add, Nat.mul_one, Nat.add_zero] at hS7
          repeat first | (with_reducible first | refine Wp.seq ?_ | refine Wp.reg ?_ | refine Wp.block ?_ | refine Wp.skip ?_ | refine Wp.ret ?_ | refine Wp.exit ?_ | refine Wp.label ?_ | refine Wp.condG ?_) | simp (disch := omega) only [↓RP, RQ, TS, TR, ↓reduceIte, Nat.reduceEqDiff, Nat.reduceLT, Nat.reduceLeDiff, Int.reduceLT, Int.reduceLE, Int.reduceEq, Int.reduceAdd, Int.reduceSub, Int.reduceNeg, Int.reduceToNat, Nat.reduceAdd, Nat.reduceMul, Nat.reduceSub, reduceCtorEq, RC, hn, g1, g5, g6, g7]
          exact .inl ⟨by omega, cv', rfl, hS7.tail⟩
      · have hee : (es.getD k (0, 0)).2 = (es.getD k (0, 0)).1 := by omega
        have h0 : dT es N 0 k = 0 := by
          unfold dT
          rw [hee]
          exact hd.self hm.1
        have hcy : cyc es N 0 k = [k] := by unfold cyc; rw [h0]; rfl
        repeat first | (with_reducible first | refine Wp.seq ?_ | refine Wp.reg ?_ | refine Wp.block ?_ | refine Wp.skip ?_ | refine Wp.ret ?_ | refine Wp.exit ?_ | refine Wp.label ?_ | refine Wp.condG ?_) | simp (disch := omega) only [↓RP, RQ, TS, TR, ↓reduceIte, Nat.reduceEqDiff, Nat.reduceLT, Nat.reduceLeDiff, Int.reduceLT, Int.reduceLE, Int.reduceEq, Int.reduceAdd, Int.reduceSub, Int.reduceNeg, Int.reduceToNat, Nat.reduceAdd, Nat.reduceMul, Nat.reduceSub, reduceCtorEq, RC, hn, g1, g5, g6, g7]
        rw [hcy]
        exact .inl ⟨by omega, cv, rfl, hS5⟩
    clear hn g1 g5 g6 g7 hS5 hS hv5
    rintro e l H2 ⟨hn, g1, g5, g6, g7, ⟨rfl, hpos, cv, g8, hS⟩ | ⟨rfl, hneg, hS⟩⟩
    · have hch := cyc_ch T (Nat.zero_le _) hkl hpos
      have hc0 : (cyc es N 0 k).getD 0 0 = k := rfl
      have hcand : cand es N k ↔ ∀ j, j < (cyc es N 0 k).length → k ≤ (cyc es N 0 k).getD j 0 := by
        constructor
        · intro h j hj
          exact h.2 _ (getD_mem' 0 hj)
        · intro h
          refine ⟨hpos, fun i hi => ?_⟩
          obtain ⟨j, hj, rfl⟩ := List.getElem_of_mem hi
          have := h j hj
          rwa [List.getD_eq_getElem?_getD, List.getElem?_eq_getElem hj] at this
      have hcw := hcl k hkl
      have hne : cyc es N 0 k ≠ [] := by simp [cyc]
      have hclen := hch.2.2
      generalize hcc : cyc es N 0 k = c at hS hc0 hcand hclen hne
      have hc1 : Sl1 H2 cv (fun n : Nat => I n) c := hS.rd 0 rfl
      have hb1 : Sl1 H2 bv (fun n : Nat => I n) b := hS.rd 1 rfl
      repeat first | (with_reducible first | refine Wp.seq ?_ | refine Wp.reg ?_ | refine Wp.block ?_ | refine Wp.skip ?_ | refine Wp.ret ?_ | refine Wp.exit ?_ | refine Wp.label ?_ | refine Wp.condG ?_) | simp (disch := omega) only [↓RP, RQ, TS, TR, ↓reduceIte, Nat.reduceEqDiff, Nat.reduceLT, Nat.reduceLeDiff, Int.reduceLT, Int.reduceLE, Int.reduceEq, Int.reduceAdd, Int.reduceSub, Int.reduceNeg, Int.reduceToNat, Nat.reduceAdd, Nat.reduceMul, Nat.reduceSub, reduceCtorEq, RC, hn, g1, g5, g6, g7, g8]
      refine Wp.mono (Q := fun e l2 H3 => e = .exit 2 ∧ H3 = H2 ∧ l2.length = 106 ∧ get l2 1 = ev ∧ get l2 5 = st ∧ get l2 6 = bv ∧ get l2 7 = I k ∧ get l2 8 = cv ∧ ∃ x : Bool, get l2 9 = .bool x ∧ (x = true ↔ cand es N k)) ?_ ?_
      · refine Wp.loopN (fun m l2 H3 => H3 = H2 ∧ l2.length = 106 ∧ get l2 1 = ev ∧ get l2 5 = st ∧ get l2 6 = bv ∧ get l2 7 = I k ∧ get l2 8 = cv ∧ ∃ (i : Nat) (x : Bool), m + i = c.length ∧ get l2 10 = I i ∧ get l2 9 = .bool x ∧ (x = true ↔ ∀ j, j < i → k ≤ c.getD j 0)) c.length ?_ ?_
        · repeat first | (with_reducible first | refine Wp.seq ?_ | refine Wp.reg ?_ | refine Wp.block ?_ | refine Wp.skip ?_ | refine Wp.ret ?_ | refine Wp.exit ?_ | refine Wp.label ?_ | refine Wp.condG ?_) | simp (disch := omega) only [↓RP, RQ, TS, TR, ↓reduceIte, Nat.reduceEqDiff, Nat.reduceLT, Nat.reduceLeDiff, Int.reduceLT, Int.reduceLE, Int.reduceEq, Int.reduceAdd, Int.reduceSub, Int.reduceNeg, Int.reduceToNat, Nat.reduceAdd, Nat.reduceMul, Nat.reduceSub, reduceCtorEq, RC, hn, g1, g5, g6, g7, g8]
          exact ⟨0, true, rfl, rfl, rfl, fun _ j hj => absurd hj (Nat.not_lt_zero _), fun _ => rfl⟩
        clear hn g1 g5 g6 g7 g8
        rintro m l2 H3 ⟨rfl, hn, g1, g5, g6, g7, g8, i, x, hi, g10, g9, hx⟩
        repeat first | (with_reducible first | refine Wp.seq ?_ | refine Wp.reg ?_ | refine Wp.block ?_ | refine Wp.skip ?_ | refine Wp.ret ?_ | refine Wp.exit ?_ | refine Wp.label ?_ | refine Wp.condG ?_) | simp (disch := omega) only [↓RP, RQ, TS, TR, ↓reduceIte, Nat.reduceEqDiff, Nat.reduceLT, Nat.reduceLeDiff, Int.reduceLT, Int.reduceLE, Int.reduceEq, Int.reduceAdd, Int.reduceSub, Int.reduceNeg, Int.reduceToNat, Nat.reduceAdd, Nat.reduceMul, Nat.reduceSub, reduceCtorEq, RC, hn, g1, g5, g6, g7, g8, g9, g10, hc1.len]
        refine condW_split (fun h4 => ?_) (fun h4 => ?_)
        · cases x with
          | true =>
            repeat first | (with_reducible first | refine Wp.seq ?_ | refine Wp.reg ?_ | refine Wp.block ?_ | refine Wp.skip ?_ | refine Wp.ret ?_ | refine Wp.exit ?_ | refine Wp.label ?_ | refine Wp.condG ?_) | simp (disch := omega) only [↓RP, RQ, TS, TR, ↓reduceIte, Nat.reduceEqDiff, Nat.reduceLT, Nat.reduceLeDiff, Int.reduceLT, Int.reduceLE, Int.reduceEq, Int.reduceAdd, Int.reduceSub, Int.reduceNeg, Int.reduceToNat, Nat.reduceAdd, Nat.reduceMul, Nat.reduceSub, reduceCtorEq, RC, hn, g1, g5, g6, g7, g8, g9, g10, hc1.idx, hc1.ld 0, wrap_fit]
            refine ⟨m - 1, by omega, i + 1, _, by omega, rfl, rfl, ?_⟩
            rw [decide_eq_true_eq]
            have hx' := hx.1 rfl
            constructor
            · intro h5 j hj
              by_cases e : j = i
              · subst e; omega
              · exact hx' j (by omega)
            · intro h5
              have := h5 i (by omega)
              omega
          | false =>
            repeat first | (with_reducible first | refine Wp.seq ?_ | refine Wp.reg ?_ | refine Wp.block ?_ | refine Wp.skip ?_ | refine Wp.ret ?_ | refine Wp.exit ?_ | refine Wp.label ?_ | refine Wp.condG ?_) | simp (disch := omega) only [↓RP, RQ, TS, TR, ↓reduceIte, Nat.reduceEqDiff, Nat.reduceLT, Nat.reduceLeDiff, Int.reduceLT, Int.reduceLE, Int.reduceEq, Int.reduceAdd, Int.reduceSub, Int.reduceNeg, Int.reduceToNat, Nat.reduceAdd, Nat.reduceMul, Nat.reduceSub, reduceCtorEq, RC, hn, g1, g5, g6, g7, g8, g9, g10, wrap_fit]
            refine ⟨m - 1, by omega, i + 1, false, by omega, rfl, rfl, ?_⟩
            constructor
            · intro h5; cases h5
            · intro h5
              exact hx.2 fun j hj => h5 j (by omega)
        · repeat first | (with_reducible first | refine Wp.seq ?_ | refine Wp.reg ?_ | refine Wp.block ?_ | refine Wp.skip ?_ | refine Wp.ret ?_ | refine Wp.exit ?_ | refine Wp.label ?_ | refine Wp.condG ?_) | simp (disch := omega) only [↓RP, RQ, TS, TR, ↓reduceIte, Nat.reduceEqDiff, Nat.reduceLT, Nat.reduceLeDiff, Int.reduceLT, Int.reduceLE, Int.reduceEq, Int.reduceAdd, Int.reduceSub, Int.reduceNeg, Int.reduceToNat, Nat.reduceAdd, Nat.reduceMul, Nat.reduceSub, reduceCtorEq, RC, hn, g1, g5, g6, g7, g8, g9, g10]
          refine ⟨x, rfl, ?_⟩
          rw [hx, hcand]
          rw [show i = c.length from by omega]
      · clear hn g1 g5 g6 g7 g8
        rintro e l H3 ⟨rfl, rfl, hn, g1, g5, g6, g7, g8, x, g9, hx⟩
        cases x with
        | false =>
          have hnc : ¬ cand es N k := fun hh => by have := hx.2 hh; cases this
          repeat first | (with_reducible first | refine Wp.seq ?_ | refine Wp.reg ?_ | refine Wp.block ?_ | refine Wp.skip ?_ | refine Wp.ret ?_ | refine Wp.exit ?_ | refine Wp.label ?_ | refine Wp.condG ?_) | simp (disch := omega) only [↓RP, RQ, TS, TR, ↓reduceIte, Nat.reduceEqDiff, Nat.reduceLT, Nat.reduceLeDiff, Int.reduceLT, Int.reduceLE, Int.reduceEq, Int.reduceAdd, Int.reduceSub, Int.reduceNeg, Int.reduceToNat, Nat.reduceAdd, Nat.reduceMul, Nat.reduceSub, reduceCtorEq, RC, hn, g1, g5, g6, g7, g8, g9, wrap_fit]
          exact ⟨n - 1, by omega, k + 1, b, bv, by omega, rfl, rfl, hM.none hnc, hbN, hS.tail⟩
        | true =>
          have hcd := hx.1 rfl
          have hnew : (b = [] ∨ dT es N 0 k + 1 < b.length) → Mst (cand es N) (fun i => dT es N 0 i) (fun i => cyc es N 0 i) (k + 1) c := fun hh => by
            have := hM.new (fun _ => by simp [cyc]) (fun j hj => hcl j (by omega)) hcd hh
            rwa [hcc] at this
          have hsub : St Try.prog H H3 (⟨cv, 1, nts c⟩ :: ⟨st, 1, (List.range N).map ws⟩ :: inner N ws rows) := hS.sub (.cons_cons _ (.cons _ (.refl _)))
          by_cases hb0 : b.length = 0
          · have e1 : ((b.length : Nat) : Int) = 0 := by omega
            repeat first | (with_reducible first | refine Wp.seq ?_ | refine Wp.reg ?_ | refine Wp.block ?_ | refine Wp.skip ?_ | refine Wp.ret ?_ | refine Wp.exit ?_ | refine Wp.label ?_ | refine Wp.condG ?_) | simp (disch := omega) only [↓RP, RQ, TS, TR, ↓reduceIte, Nat.reduceEqDiff, Nat.reduceLT, Nat.reduceLeDiff, Int.reduceLT, Int.reduceLE, Int.reduceEq, Int.reduceAdd, Int.reduceSub, Int.reduceNeg, Int.reduceToNat, Nat.reduceAdd, Nat.reduceMul, Nat.reduceSub, reduceCtorEq, RC, hn, g1, g5, g6, g7, g8, g9, hb1.len, hc1.len, e1, wrap_fit]
            exact ⟨n - 1, by omega, k + 1, c, cv, by omega, rfl, rfl, hnew (.inl (List.eq_nil_of_length_eq_zero hb0)), by omega, hsub⟩
          · have e1 : ¬ ((b.length : Nat) : Int) = 0 := by omega
            by_cases hb2 : c.length < b.length
            · have e2 : ((c.length : Nat) : Int) < ((b.length : Nat) : Int) := by omega
              repeat first | (with_reducible first | refine Wp.seq ?_ | refine Wp.reg ?_ | refine Wp.block ?_ | refine Wp.skip ?_ | refine Wp.ret ?_ | refine Wp.exit ?_ | refine Wp.label ?_ | refine Wp.condG ?_) | simp (disch := omega) only [↓RP, RQ, TS, TR, ↓reduceIte, Nat.reduceEqDiff, Nat.reduceLT, Nat.reduceLeDiff, Int.reduceLT, Int.reduceLE, Int.reduceEq, Int.reduceAdd, Int.reduceSub, Int.reduceNeg, Int.reduceToNat, Nat.reduceAdd, Nat.reduceMul, Nat.reduceSub, reduceCtorEq, RC, hn, g1, g5, g6, g7, g8, g9, hb1.len, hc1.len, e1, e2, wrap_fit]
              exact ⟨n - 1, by omega, k + 1, c, cv, by omega, rfl, rfl, hnew (.inr (by omega)), by omega, hsub⟩
            · have e2 : ¬ ((c.length : Nat) : Int) < ((b.length : Nat) : Int) := by omega
              have hkeep := hM.keep (fun j hj => hcl j (by omega)) (fun e => hb0 (by rw [e]; rfl)) (show ((b.length : Nat) : Int) ≤ dT es N 0 k + 1 by omega)
              by_cases hb3 : c.length = b.length
              · have e3 : ((c.length : Nat) : Int) = ((b.length : Nat) : Int) := by omega
                have hbk : b.getD 0 0 < c.getD 0 0 := by
                  rw [hc0]
                  rcases hM with ⟨h5, _⟩ | ⟨j, h5, _, h6, _⟩
                  · exact (hb0 (by rw [h5]; rfl)).elim
                  · rw [h6]
                    exact h5
                have e5 : ¬ ((b.length : Nat) : Int) < ((b.length : Nat) : Int) := by omega
                repeat first | (with_reducible first | refine Wp.seq ?_ | refine Wp.reg ?_ | refine Wp.block ?_ | refine Wp.skip ?_ | refine Wp.ret ?_ | refine Wp.exit ?_ | refine Wp.label ?_ | refine Wp.condG ?_) | simp (disch := omega) only [↓RP, RQ, TS, TR, ↓reduceIte, Nat.reduceEqDiff, Nat.reduceLT, Nat.reduceLeDiff, Int.reduceLT, Int.reduceLE, Int.reduceEq, Int.reduceAdd, Int.reduceSub, Int.reduceNeg, Int.reduceToNat, Nat.reduceAdd, Nat.reduceMul, Nat.reduceSub, reduceCtorEq, RC, hn, g1, g5, g6, g7, g8, g9, hb1.len, hc1.len, e1, e3, e5]
                refine callFW_of (less_ok cv bv c b hc1 hb1 (by omega) (by omega) hbk) ?_
                rintro r H4 ⟨rfl, rfl⟩
                repeat first | (with_reducible first | refine Wp.seq ?_ | refine Wp.reg ?_ | refine Wp.block ?_ | refine Wp.skip ?_ | refine Wp.ret ?_ | refine Wp.exit ?_ | refine Wp.label ?_ | refine Wp.condG ?_) | simp (disch := omega) only [↓RP, RQ, TS, TR, ↓reduceIte, Nat.reduceEqDiff, Nat.reduceLT, Nat.reduceLeDiff, Int.reduceLT, Int.reduceLE, Int.reduceEq, Int.reduceAdd, Int.reduceSub, Int.reduceNeg, Int.reduceToNat, Nat.reduceAdd, Nat.reduceMul, Nat.reduceSub, reduceCtorEq, RC, hn, g1, g5, g6, g7, g8, g9, hb1.len, hc1.len, e1, e3, e5, wrap_fit]
                exact ⟨n - 1, by omega, k + 1, b, bv, by omega, rfl, rfl, hkeep, hbN, hS.tail⟩
              · have e3 : ¬ ((c.length : Nat) : Int) = ((b.length : Nat) : Int) := by omega
                repeat first | (with_reducible first | refine Wp.seq ?_ | refine Wp.reg ?_ | refine Wp.block ?_ | refine Wp.skip ?_ | refine Wp.ret ?_ | refine Wp.exit ?_ | refine Wp.label ?_ | refine Wp.condG ?_) | simp (disch := omega) only [↓RP, RQ, TS, TR, ↓reduceIte, Nat.reduceEqDiff, Nat.reduceLT, Nat.reduceLeDiff, Int.reduceLT, Int.reduceLE, Int.reduceEq, Int.reduceAdd, Int.reduceSub, Int.reduceNeg, Int.reduceToNat, Nat.reduceAdd, Nat.reduceMul, Nat.reduceSub, reduceCtorEq, RC, hn, g1, g5, g6, g7, g8, g9, hb1.len, hc1.len, e1, e2, e3, wrap_fit]
                exact ⟨n - 1, by omega, k + 1, b, bv, by omega, rfl, rfl, hkeep, hbN, hS.tail⟩
    · repeat first | (with_reducible first | refine Wp.seq ?_ | refine Wp.reg ?_ | refine Wp.block ?_ | refine Wp.skip ?_ | refine Wp.ret ?_ | refine Wp.exit ?_ | refine Wp.label ?_ | refine Wp.condG ?_) | simp (disch := omega) only [↓RP, RQ, TS, TR, ↓reduceIte, Nat.reduceEqDiff, Nat.reduceLT, Nat.reduceLeDiff, Int.reduceLT, Int.reduceLE, Int.reduceEq, Int.reduceAdd, Int.reduceSub, Int.reduceNeg, Int.reduceToNat, Nat.reduceAdd, Nat.reduceMul, Nat.reduceSub, reduceCtorEq, RC, hn, g1, g5, g6, g7, wrap_fit]
      exact ⟨n - 1, by omega, k + 1, b, bv, by omega, rfl, rfl, hM.none (fun hh => hneg hh.1), hbN, hS⟩
  · repeat first | (with_reducible first | refine Wp.seq ?_ | refine Wp.reg ?_ | refine Wp.block ?_ | refine Wp.skip ?_ | refine Wp.ret ?_ | refine Wp.exit ?_ | refine Wp.label ?_ | refine Wp.condG ?_) | simp (disch := omega) only [↓RP, RQ, TS, TR, ↓reduceIte, Nat.reduceEqDiff, Nat.reduceLT, Nat.reduceLeDiff, Int.reduceLT, Int.reduceLE, Int.reduceEq, Int.reduceAdd, Int.reduceSub, Int.reduceNeg, Int.reduceToNat, Nat.reduceAdd, Nat.reduceMul, Nat.reduceSub, reduceCtorEq, RC, hn, g1, g5, g6, g7]
    have e : k = es.length := by omega
    subst e
    exact ⟨b, hM, hbN, hS.sub (.cons_cons _ (List.nil_sublist _))⟩
end Go.Ds
/-
  The worked example of the layer: a closed run, by the kernel.
-/
namespace Go.Ds
open Go.Proofs

noncomputable def knownRun : Bool := match callF Try.prog (exD Try.prog 3000) 12 [] .nil with
  | some (.bool true, _) => true
  | _ => false
theorem knownRuns : knownRun = true := by kernel_rfl

theorem known_ok (H : Heap) : Fn Try.prog 12 [] H fun r H' => r = .bool true ∧ H' = H := by
  have h := knownRuns
  unfold knownRun at h
  split at h
  · rename_i H1 hr
    exact ⟨⟨Try.f12, rfl, rfl, by kernel_rfl⟩, _, H, CallOk.closed (by rfl) (CallOk.of_run hmix hr) H, rfl, rfl⟩
  · cases h
end Go.Ds
/-
  The law on Reach and Distance: its walk.
-/
namespace Go.Ds
open Go.Proofs Go.Plain
variable {H : Heap}

theorem mkE_length (a : Nat) (ls : List (Nat × Nat)) : (mkE a ls).length = ls.length := by simp [mkE]
theorem mkE_val (a : Nat) (ls : List (Nat × Nat)) : ∀ e ∈ mkE a ls, e.1 < mkN a ∧ e.2 < mkN a := by
  intro e he
  obtain ⟨x, _, rfl⟩ := List.mem_map.1 he
  have : 0 < mkN a := by unfold mkN; omega
  exact ⟨Nat.mod_lt _ this, Nat.mod_lt _ this⟩
theorem mkN_pos (a : Nat) : 0 < mkN a ∧ mkN a ≤ 7 := by unfold mkN; omega

theorem reaches_ok (a c : Nat) (ha : a < 256) (hc : c < 256) (v : Value) (ls : List (Nat × Nat)) (hv : Lk H v ls) (hb : ∀ x ∈ ls, x.1 < 256 ∧ x.2 < 256) : Fn Try.prog 6 [U a, v, U c] H fun r H' => r = .bool true := by
  refine Fn.of_wp (fn := Try.f6) rfl rfl (by kernel_rfl) fun l hl => ?_
  have hn : l.length = 107 := by rw [hl]; rfl
  have g0 : get l 0 = U a := by rw [hl]; rfl
  have g1 : get l 1 = v := by rw [hl]; rfl
  have g2 : get l 2 = U c := by rw [hl]; rfl
  clear hl
  have hv0 : Sl2 H v _ _ ls := hv
  repeat first | (with_reducible first | refine Wp.seq ?_ | refine Wp.reg ?_ | refine Wp.block ?_ | refine Wp.skip ?_ | refine Wp.ret ?_ | refine Wp.exit ?_ | refine Wp.label ?_ | refine Wp.condG ?_) | simp (disch := omega) only [↓RP, RQ, TS, TR, ↓reduceIte, Nat.reduceEqDiff, Nat.reduceLT, Nat.reduceLeDiff, Int.reduceLT, Int.reduceLE, Int.reduceEq, Int.reduceAdd, Int.reduceSub, Int.reduceNeg, Int.reduceToNat, Nat.reduceAdd, Nat.reduceMul, Nat.reduceSub, reduceCtorEq, RC, hn, g0, g1, g2]
  refine callFW_of (known_ok H) ?_
  rintro r H1 ⟨rfl, rfl⟩
  repeat first | (with_reducible first | refine Wp.seq ?_ | refine Wp.reg ?_ | refine Wp.block ?_ | refine Wp.skip ?_ | refine Wp.ret ?_ | refine Wp.exit ?_ | refine Wp.label ?_ | refine Wp.condG ?_) | simp (disch := omega) only [↓RP, RQ, TS, TR, ↓reduceIte, Nat.reduceEqDiff, Nat.reduceLT, Nat.reduceLeDiff, Int.reduceLT, Int.reduceLE, Int.reduceEq, Int.reduceAdd, Int.reduceSub, Int.reduceNeg, Int.reduceToNat, Nat.reduceAdd, Nat.reduceMul, Nat.reduceSub, reduceCtorEq, RC, hn, g0, g1, g2, hv0.len]
  refine condW_split (fun h => ?_) (fun h => ?_)
  · repeat first | (with_reducible first | refine Wp.seq ?_ | refine Wp.reg ?_ | refine Wp.block ?_ | refine Wp.skip ?_ | refine Wp.ret ?_ | refine Wp.exit ?_ | refine Wp.label ?_ | refine Wp.condG ?_) | simp (disch := omega) only [↓RP, RQ, TS, TR, ↓reduceIte, Nat.reduceEqDiff, Nat.reduceLT, Nat.reduceLeDiff, Int.reduceLT, Int.reduceLE, Int.reduceEq, Int.reduceAdd, Int.reduceSub, Int.reduceNeg, Int.reduceToNat, Nat.reduceAdd, Nat.reduceMul, Nat.reduceSub, reduceCtorEq, RC, hn, g0, g1, g2]
    refine callFW_of (known_ok _) ?_
    rintro r H1 ⟨rfl, rfl⟩
    repeat first | (with_reducible first | refine Wp.seq ?_ | refine Wp.reg ?_ | refine Wp.block ?_ | refine Wp.skip ?_ | refine Wp.ret ?_ | refine Wp.exit ?_ | refine Wp.label ?_ | refine Wp.condG ?_) | simp (disch := omega) only [↓RP, RQ, TS, TR, ↓reduceIte, Nat.reduceEqDiff, Nat.reduceLT, Nat.reduceLeDiff, Int.reduceLT, Int.reduceLE, Int.reduceEq, Int.reduceAdd, Int.reduceSub, Int.reduceNeg, Int.reduceToNat, Nat.reduceAdd, Nat.reduceMul, Nat.reduceSub, reduceCtorEq, RC, hn, g0, g1, g2]
  repeat first | (with_reducible first | refine Wp.seq ?_ | refine Wp.reg ?_ | refine Wp.block ?_ | refine Wp.skip ?_ | refine Wp.ret ?_ | refine Wp.exit ?_ | refine Wp.label ?_ | refine Wp.condG ?_) | simp (disch := omega) only [↓RP, RQ, TS, TR, ↓reduceIte, Nat.reduceEqDiff, Nat.reduceLT, Nat.reduceLeDiff, Int.reduceLT, Int.reduceLE, Int.reduceEq, Int.reduceAdd, Int.reduceSub, Int.reduceNeg, Int.reduceToNat, Nat.reduceAdd, Nat.reduceMul, Nat.reduceSub, reduceCtorEq, RC, hn, g0, g1, g2]
  refine callFW_of (make_ok a ha v ls hv (by omega) hb) ?_
  rintro r H2 ⟨w, rfl, hE, _⟩
  have hN := mkN_pos a
  have hval := mkE_val a ls
  have hl := mkE_length a ls
  generalize mkE a ls = es at hE hval hl
  generalize mkN a = N at hE hval hN
  have hs : c % N < N := Nat.mod_lt _ hN.1
  repeat first | (with_reducible first | refine Wp.seq ?_ | refine Wp.reg ?_ | refine Wp.block ?_ | refine Wp.skip ?_ | refine Wp.ret ?_ | refine Wp.exit ?_ | refine Wp.label ?_ | refine Wp.condG ?_) | simp (disch := omega) only [↓RP, RQ, TS, TR, ↓reduceIte, Nat.reduceEqDiff, Nat.reduceLT, Nat.reduceLeDiff, Int.reduceLT, Int.reduceLE, Int.reduceEq, Int.reduceAdd, Int.reduceSub, Int.reduceNeg, Int.reduceToNat, Nat.reduceAdd, Nat.reduceMul, Nat.reduceSub, reduceCtorEq, RC, hn, g0, g1, g2]
  refine (St.refl _ H2).eNew 2 [I 0, .slice none 0 0] rfl rfl rfl tS27 fun A H3 hS => ?_
  repeat first | (with_reducible first | refine Wp.seq ?_ | refine Wp.reg ?_ | refine Wp.block ?_ | refine Wp.skip ?_ | refine Wp.ret ?_ | refine Wp.exit ?_ | refine Wp.label ?_ | refine Wp.condG ?_) | simp (disch := omega) only [↓RP, RQ, TS, TR, ↓reduceIte, Nat.reduceEqDiff, Nat.reduceLT, Nat.reduceLeDiff, Int.reduceLT, Int.reduceLE, Int.reduceEq, Int.reduceAdd, Int.reduceSub, Int.reduceNeg, Int.reduceToNat, Nat.reduceAdd, Nat.reduceMul, Nat.reduceSub, reduceCtorEq, RC, hn, g0, g1, g2]
  refine hS.eStore 0 rfl [I N, w] rfl (by simp [hE.one]; rfl) tS27 (by simp) fun H4 hS => ?_
  simp only [List.nil_append, List.cons_append, List.append_nil, List.set_cons_zero, List.set_cons_succ, setMany_cons, setMany_nil, Nat.zero_add, Nat.mul_one, Nat.add_zero] at hS
  repeat first | (with_reducible first | refine Wp.seq ?_ | refine Wp.reg ?_ | refine Wp.block ?_ | refine Wp.skip ?_ | refine Wp.ret ?_ | refine Wp.exit ?_ | refine Wp.label ?_ | refine Wp.condG ?_) | simp (disch := omega) only [↓RP, RQ, TS, TR, ↓reduceIte, Nat.reduceEqDiff, Nat.reduceLT, Nat.reduceLeDiff, Int.reduceLT, Int.reduceLE, Int.reduceEq, Int.reduceAdd, Int.reduceSub, Int.reduceNeg, Int.reduceToNat, Nat.reduceAdd, Nat.reduceMul, Nat.reduceSub, reduceCtorEq, RC, hn, g0, g1, g2, hS.ld 0 rfl, wrap_fit, tmod_nat, hS.ldA 0 rfl]
  generalize c % N = s at hs
  refine callFW_of (reach_ok N w es (hS.base hE) (by omega) (by omega) hval s hs) ?_
  rintro r H5 ⟨d, wr, rfl, hd, hS5⟩
  have hS := hS.trans hS5
  simp only [List.nil_append, List.cons_append, List.append_nil, List.set_cons_zero, List.set_cons_succ, setMany_cons, setMany_nil, Nat.zero_add, Nat.mul_one, Nat.add_zero] at hS
  repeat first | (with_reducible first | refine Wp.seq ?_ | refine Wp.reg ?_ | refine Wp.block ?_ | refine Wp.skip ?_ | refine Wp.ret ?_ | refine Wp.exit ?_ | refine Wp.label ?_ | refine Wp.condG ?_) | simp (disch := omega) only [↓RP, RQ, TS, TR, ↓reduceIte, Nat.reduceEqDiff, Nat.reduceLT, Nat.reduceLeDiff, Int.reduceLT, Int.reduceLE, Int.reduceEq, Int.reduceAdd, Int.reduceSub, Int.reduceNeg, Int.reduceToNat, Nat.reduceAdd, Nat.reduceMul, Nat.reduceSub, reduceCtorEq, RC, hn, g0, g1, g2, hS.ldA 0 rfl]
  refine callFW_of (distance_ok N w es (hS.base hE) (by omega) (by omega) hval s hs) ?_
  rintro r H6 ⟨d', wd, rfl, hd', hS6⟩
  obtain rfl := hd.eq hd'
  have hS6 := hS.trans hS6
  simp only [List.nil_append, List.cons_append, List.append_nil, List.set_cons_zero, List.set_cons_succ, setMany_cons, setMany_nil, Nat.zero_add, Nat.mul_one, Nat.add_zero] at hS6
  repeat first | (with_reducible first | refine Wp.seq ?_ | refine Wp.reg ?_ | refine Wp.block ?_ | refine Wp.skip ?_ | refine Wp.ret ?_ | refine Wp.exit ?_ | refine Wp.label ?_ | refine Wp.condG ?_) | simp (disch := omega) only [↓RP, RQ, TS, TR, ↓reduceIte, Nat.reduceEqDiff, Nat.reduceLT, Nat.reduceLeDiff, Int.reduceLT, Int.reduceLE, Int.reduceEq, Int.reduceAdd, Int.reduceSub, Int.reduceNeg, Int.reduceToNat, Nat.reduceAdd, Nat.reduceMul, Nat.reduceSub, reduceCtorEq, RC, hn, g0, g1, g2]
  refine Wp.drwT hmix [(1, 4)] (by kernel_rfl) (by kernel_rfl) ?_
  repeat first | (with_reducible first | refine Wp.seq ?_ | refine Wp.reg ?_ | refine Wp.block ?_ | refine Wp.skip ?_ | refine Wp.ret ?_ | refine Wp.exit ?_ | refine Wp.label ?_ | refine Wp.condG ?_) | simp (disch := omega) only [↓RP, RQ, TS, TR, ↓reduceIte, Nat.reduceEqDiff, Nat.reduceLT, Nat.reduceLeDiff, Int.reduceLT, Int.reduceLE, Int.reduceEq, Int.reduceAdd, Int.reduceSub, Int.reduceNeg, Int.reduceToNat, Nat.reduceAdd, Nat.reduceMul, Nat.reduceSub, reduceCtorEq, RC, hn, g0, g1, g2, hS6.ldA 0 rfl, hS6.ld 0 rfl]
  refine callFW_of (edges_ok N w es (hS6.base hE) (by omega)) ?_
  rintro ev H7 ⟨hEv, hS7⟩
  have hS7 := hS6.trans hS7
  simp only [List.nil_append, List.cons_append, List.append_nil, List.set_cons_zero, List.set_cons_succ, setMany_cons, setMany_nil, Nat.zero_add, Nat.mul_one, Nat.add_zero] at hS7
  repeat first | (with_reducible first | refine Wp.seq ?_ | refine Wp.reg ?_ | refine Wp.block ?_ | refine Wp.skip ?_ | refine Wp.ret ?_ | refine Wp.exit ?_ | refine Wp.label ?_ | refine Wp.condG ?_) | simp (disch := omega) only [↓RP, RQ, TS, TR, ↓reduceIte, Nat.reduceEqDiff, Nat.reduceLT, Nat.reduceLeDiff, Int.reduceLT, Int.reduceLE, Int.reduceEq, Int.reduceAdd, Int.reduceSub, Int.reduceNeg, Int.reduceToNat, Nat.reduceAdd, Nat.reduceMul, Nat.reduceSub, reduceCtorEq, RC, hn, g0, g1, g2]
  refine callFW_of (steps_ok N ev es hEv (by omega) (by omega) hval) ?_
  rintro st H8 ⟨ws, rows, hrows, hS8⟩
  have hS8 := hS7.trans hS8
  simp only [List.nil_append, List.cons_append, List.append_nil, List.set_cons_zero, List.set_cons_succ, setMany_cons, setMany_nil, Nat.zero_add, Nat.mul_one, Nat.add_zero] at hS8
  have hwd : Sl1 H8 wd (.int .i64) d := hS8.rd 2 rfl
  have hwr : Sl1 H8 wr (fun n : Nat => I n) ((List.range N).filter fun k => decide (0 ≤ d.getD k 0)) := hS8.rd 1 rfl
  have hst : Sl1 H8 st ws (List.range N) := hS8.rd 3 rfl
  have hdl := hd.len
  have hrl : (List.range N).length = N := List.length_range
  repeat first | (with_reducible first | refine Wp.seq ?_ | refine Wp.reg ?_ | refine Wp.block ?_ | refine Wp.skip ?_ | refine Wp.ret ?_ | refine Wp.exit ?_ | refine Wp.label ?_ | refine Wp.condG ?_) | simp (disch := omega) only [↓RP, RQ, TS, TR, ↓reduceIte, Nat.reduceEqDiff, Nat.reduceLT, Nat.reduceLeDiff, Int.reduceLT, Int.reduceLE, Int.reduceEq, Int.reduceAdd, Int.reduceSub, Int.reduceNeg, Int.reduceToNat, Nat.reduceAdd, Nat.reduceMul, Nat.reduceSub, reduceCtorEq, RC, hn, g0, g1, g2, hS7.ld 0 rfl, hS8.ld 0 rfl, hwd.len]
  refine condW_split (fun h => absurd h (by omega)) (fun _ => ?_)
  repeat first | (with_reducible first | refine Wp.seq ?_ | refine Wp.reg ?_ | refine Wp.block ?_ | refine Wp.skip ?_ | refine Wp.ret ?_ | refine Wp.exit ?_ | refine Wp.label ?_ | refine Wp.condG ?_) | simp (disch := omega) only [↓RP, RQ, TS, TR, ↓reduceIte, Nat.reduceEqDiff, Nat.reduceLT, Nat.reduceLeDiff, Int.reduceLT, Int.reduceLE, Int.reduceEq, Int.reduceAdd, Int.reduceSub, Int.reduceNeg, Int.reduceToNat, Nat.reduceAdd, Nat.reduceMul, Nat.reduceSub, reduceCtorEq, RC, hn, g0, g1, g2]
  have hrow : Sl1 H8 (ws s) (fun n : Nat => I n) (rows s) := hS8.rd (s + 4) (inner_get N ws rows s hs)
  have hwant := fun i hi => want_eq hd (hrows s hs) i hi
  have hrlen := (hrows s hs).len
  refine Wp.loopN (fun n l H' => H' = H8 ∧ l.length = 107 ∧ get l 7 = ptr A 0 2 ∧ get l 8 = I s ∧ get l 9 = wr ∧ get l 11 = wd ∧ get l 13 = st ∧ ∃ i : Nat, n + i = N ∧ get l 15 = I i ∧
    get l 14 = I ((List.range i).filter fun k => decide (0 ≤ d.getD k 0)).length) N ?_ ?_
  · repeat first | (with_reducible first | refine Wp.seq ?_ | refine Wp.reg ?_ | refine Wp.block ?_ | refine Wp.skip ?_ | refine Wp.ret ?_ | refine Wp.exit ?_ | refine Wp.label ?_ | refine Wp.condG ?_) | simp (disch := omega) only [↓RP, RQ, TS, TR, ↓reduceIte, Nat.reduceEqDiff, Nat.reduceLT, Nat.reduceLeDiff, Int.reduceLT, Int.reduceLE, Int.reduceEq, Int.reduceAdd, Int.reduceSub, Int.reduceNeg, Int.reduceToNat, Nat.reduceAdd, Nat.reduceMul, Nat.reduceSub, reduceCtorEq, RC, hn, g0, g1, g2]
    exact ⟨0, rfl, rfl, rfl⟩
  clear hn g0 g1 g2
  rintro n l H' ⟨rfl, hn, g7, g8, g9, g11, g13, i, hi, g15, g14⟩
  repeat first | (with_reducible first | refine Wp.seq ?_ | refine Wp.reg ?_ | refine Wp.block ?_ | refine Wp.skip ?_ | refine Wp.ret ?_ | refine Wp.exit ?_ | refine Wp.label ?_ | refine Wp.condG ?_) | simp (disch := omega) only [↓RP, RQ, TS, TR, ↓reduceIte, Nat.reduceEqDiff, Nat.reduceLT, Nat.reduceLeDiff, Int.reduceLT, Int.reduceLE, Int.reduceEq, Int.reduceAdd, Int.reduceSub, Int.reduceNeg, Int.reduceToNat, Nat.reduceAdd, Nat.reduceMul, Nat.reduceSub, reduceCtorEq, RC, hn, g7, g8, g9, g11, g13, g14, g15, hS8.ld 0 rfl]
  refine condW_split (fun h3 => ?_) (fun h3 => ?_)
  · have hiN : i < N := by omega
    have hw := hwant i hiN
    repeat first | (with_reducible first | refine Wp.seq ?_ | refine Wp.reg ?_ | refine Wp.block ?_ | refine Wp.skip ?_ | refine Wp.ret ?_ | refine Wp.exit ?_ | refine Wp.label ?_ | refine Wp.condG ?_) | simp (disch := omega) only [↓RP, RQ, TS, TR, ↓reduceIte, Nat.reduceEqDiff, Nat.reduceLT, Nat.reduceLeDiff, Int.reduceLT, Int.reduceLE, Int.reduceEq, Int.reduceAdd, Int.reduceSub, Int.reduceNeg, Int.reduceToNat, Nat.reduceAdd, Nat.reduceMul, Nat.reduceSub, reduceCtorEq, RC, hn, g7, g8, g9, g11, g13, g14, g15, hst.idx, hst.ld 0, getD_range, hrow.idx, hrow.ld 0]
    refine condW_cut (fun e l H2 => e = .normal ∧ H2 = H' ∧ l.length = 107 ∧ get l 7 = ptr A 0 2 ∧ get l 8 = I s ∧ get l 9 = wr ∧ get l 11 = wd ∧ get l 13 = st ∧ get l 15 = I i ∧ get l 14 = I ((List.range i).filter fun k => decide (0 ≤ d.getD k 0)).length ∧ get l 16 = I (d.getD i 0)) ?_ ?_
    · refine condW_split (fun h4 => ?_) (fun h4 => ?_)
      · repeat first | (with_reducible first | refine Wp.seq ?_ | refine Wp.reg ?_ | refine Wp.block ?_ | refine Wp.skip ?_ | refine Wp.ret ?_ | refine Wp.exit ?_ | refine Wp.label ?_ | refine Wp.condG ?_) | simp (disch := omega) only [↓RP, RQ, TS, TR, ↓reduceIte, Nat.reduceEqDiff, Nat.reduceLT, Nat.reduceLeDiff, Int.reduceLT, Int.reduceLE, Int.reduceEq, Int.reduceAdd, Int.reduceSub, Int.reduceNeg, Int.reduceToNat, Nat.reduceAdd, Nat.reduceMul, Nat.reduceSub, reduceCtorEq, RC, hn, g7, g8, g9, g11, g13, g14, g15]
        rw [hw, if_pos (by omega)]
      · repeat first | (with_reducible first | refine Wp.seq ?_ | refine Wp.reg ?_ | refine Wp.block ?_ | refine Wp.skip ?_ | refine Wp.ret ?_ | refine Wp.exit ?_ | refine Wp.label ?_ | refine Wp.condG ?_) | simp (disch := omega) only [↓RP, RQ, TS, TR, ↓reduceIte, Nat.reduceEqDiff, Nat.reduceLT, Nat.reduceLeDiff, Int.reduceLT, Int.reduceLE, Int.reduceEq, Int.reduceAdd, Int.reduceSub, Int.reduceNeg, Int.reduceToNat, Nat.reduceAdd, Nat.reduceMul, Nat.reduceSub, reduceCtorEq, RC, hn, g7, g8, g9, g11, g13, g14, g15]
        rw [if_neg (by omega)] at hw
        refine condW_split (fun h5 => ?_) (fun h5 => ?_)
        · repeat first | (with_reducible first | refine Wp.seq ?_ | refine Wp.reg ?_ | refine Wp.block ?_ | refine Wp.skip ?_ | refine Wp.ret ?_ | refine Wp.exit ?_ | refine Wp.label ?_ | refine Wp.condG ?_) | simp (disch := omega) only [↓RP, RQ, TS, TR, ↓reduceIte, Nat.reduceEqDiff, Nat.reduceLT, Nat.reduceLeDiff, Int.reduceLT, Int.reduceLE, Int.reduceEq, Int.reduceAdd, Int.reduceSub, Int.reduceNeg, Int.reduceToNat, Nat.reduceAdd, Nat.reduceMul, Nat.reduceSub, reduceCtorEq, RC, hn, g7, g8, g9, g11, g13, g14, g15]
          rw [hw, if_pos (by omega)]
        · repeat first | (with_reducible first | refine Wp.seq ?_ | refine Wp.reg ?_ | refine Wp.block ?_ | refine Wp.skip ?_ | refine Wp.ret ?_ | refine Wp.exit ?_ | refine Wp.label ?_ | refine Wp.condG ?_) | simp (disch := omega) only [↓RP, RQ, TS, TR, ↓reduceIte, Nat.reduceEqDiff, Nat.reduceLT, Nat.reduceLeDiff, Int.reduceLT, Int.reduceLE, Int.reduceEq, Int.reduceAdd, Int.reduceSub, Int.reduceNeg, Int.reduceToNat, Nat.reduceAdd, Nat.reduceMul, Nat.reduceSub, reduceCtorEq, RC, hn, g7, g8, g9, g11, g13, g14, g15]
          rw [hw, if_neg (by omega)]
    clear hn g7 g8 g9 g11 g13 g14 g15
    rintro e l H2 ⟨rfl, rfl, hn, g7, g8, g9, g11, g13, g15, g14, g16⟩
    repeat first | (with_reducible first | refine Wp.seq ?_ | refine Wp.reg ?_ | refine Wp.block ?_ | refine Wp.skip ?_ | refine Wp.ret ?_ | refine Wp.exit ?_ | refine Wp.label ?_ | refine Wp.condG ?_) | simp (disch := omega) only [↓RP, RQ, TS, TR, ↓reduceIte, Nat.reduceEqDiff, Nat.reduceLT, Nat.reduceLeDiff, Int.reduceLT, Int.reduceLE, Int.reduceEq, Int.reduceAdd, Int.reduceSub, Int.reduceNeg, Int.reduceToNat, Nat.reduceAdd, Nat.reduceMul, Nat.reduceSub, reduceCtorEq, RC, hn, g7, g8, g9, g11, g13, g14, g15, g16, hwd.idx, hwd.ld 0]
    refine condW_split (fun h4 => ?_) (fun h4 => ?_)
    · have hf := filter_at (fun k => decide (0 ≤ d.getD k 0)) N i hiN (decide_eq_true h4)
      repeat first | (with_reducible first | refine Wp.seq ?_ | refine Wp.reg ?_ | refine Wp.block ?_ | refine Wp.skip ?_ | refine Wp.ret ?_ | refine Wp.exit ?_ | refine Wp.label ?_ | refine Wp.condG ?_) | simp (disch := omega) only [↓RP, RQ, TS, TR, ↓reduceIte, Nat.reduceEqDiff, Nat.reduceLT, Nat.reduceLeDiff, Int.reduceLT, Int.reduceLE, Int.reduceEq, Int.reduceAdd, Int.reduceSub, Int.reduceNeg, Int.reduceToNat, Nat.reduceAdd, Nat.reduceMul, Nat.reduceSub, reduceCtorEq, RC, hn, g7, g8, g9, g11, g13, g14, g15, g16, hwr.len]
      have hfl : ((List.range i).filter fun k => decide (0 ≤ d.getD k 0)).length ≤ i := by
        have := List.length_filter_le (fun k => decide (0 ≤ d.getD k 0)) (List.range i)
        simpa using this
      generalize hc1 : ((List.range i).filter fun k => decide (0 ≤ d.getD k 0)).length = c1 at hf g14 hfl ⊢
      generalize hc2 : ((List.range N).filter fun k => decide (0 ≤ d.getD k 0)) = c2 at hf hwr ⊢
      refine letG_split' (fun h5 => absurd h5 (by omega)) (fun h5 => ?_)
      have hf2 : (c2.getD c1 0 : Int) = i := by rw [hf.2]
      repeat first | (with_reducible first | refine Wp.seq ?_ | refine Wp.reg ?_ | refine Wp.block ?_ | refine Wp.skip ?_ | refine Wp.ret ?_ | refine Wp.exit ?_ | refine Wp.label ?_ | refine Wp.condG ?_) | simp (disch := omega) only [↓RP, RQ, TS, TR, ↓reduceIte, Nat.reduceEqDiff, Nat.reduceLT, Nat.reduceLeDiff, Int.reduceLT, Int.reduceLE, Int.reduceEq, Int.reduceAdd, Int.reduceSub, Int.reduceNeg, Int.reduceToNat, Nat.reduceAdd, Nat.reduceMul, Nat.reduceSub, reduceCtorEq, RC, hn, g7, g8, g9, g11, g13, g14, g15, g16, hwr.len, h5, hwr.idx, hwr.ld 0, hf2, wrap_fit]
      refine ⟨n - 1, by omega, i + 1, by omega, rfl, ?_⟩
      rw [List.range_succ, List.filter_append]
      have e : [i].filter (fun k => decide (0 ≤ d.getD k 0)) = [i] := by simp only [List.filter_cons, List.filter_nil, decide_eq_true h4, if_true]
      rw [e, List.length_append, hc1]
      rfl
    · repeat first | (with_reducible first | refine Wp.seq ?_ | refine Wp.reg ?_ | refine Wp.block ?_ | refine Wp.skip ?_ | refine Wp.ret ?_ | refine Wp.exit ?_ | refine Wp.label ?_ | refine Wp.condG ?_) | simp (disch := omega) only [↓RP, RQ, TS, TR, ↓reduceIte, Nat.reduceEqDiff, Nat.reduceLT, Nat.reduceLeDiff, Int.reduceLT, Int.reduceLE, Int.reduceEq, Int.reduceAdd, Int.reduceSub, Int.reduceNeg, Int.reduceToNat, Nat.reduceAdd, Nat.reduceMul, Nat.reduceSub, reduceCtorEq, RC, hn, g7, g8, g9, g11, g13, g14, g15, g16, wrap_fit]
      refine ⟨n - 1, by omega, i + 1, by omega, rfl, ?_⟩
      rw [List.range_succ, List.filter_append]
      have e : [i].filter (fun k => decide (0 ≤ d.getD k 0)) = [] := by simp only [List.filter_cons, List.filter_nil, decide_eq_false h4]; rfl
      rw [e, List.append_nil]
  · have e : i = N := by omega
    subst e
    repeat first | (with_reducible first | refine Wp.seq ?_ | refine Wp.reg ?_ | refine Wp.block ?_ | refine Wp.skip ?_ | refine Wp.ret ?_ | refine Wp.exit ?_ | refine Wp.label ?_ | refine Wp.condG ?_) | simp (disch := omega) only [↓RP, RQ, TS, TR, ↓reduceIte, Nat.reduceEqDiff, Nat.reduceLT, Nat.reduceLeDiff, Int.reduceLT, Int.reduceLE, Int.reduceEq, Int.reduceAdd, Int.reduceSub, Int.reduceNeg, Int.reduceToNat, Nat.reduceAdd, Nat.reduceMul, Nat.reduceSub, reduceCtorEq, RC, hn, g7, g8, g9, g11, g13, g14, g15, hwr.len]
end Go.Ds
/-
  The law on Cycle: its walk.
-/
namespace Go.Ds
open Go.Proofs Go.Plain
variable {H : Heap}

theorem binB (a b : Bool) : plainD Try.prog ⟨none, .binOp .eql 4 (.tmp 0) (.tmp 1) 4, 4, "", #[], none⟩ [.bool a, .bool b] .nil = some (.bool (a == b), .nil) := by
  cases a <;> cases b <;> kernel_rfl

theorem binW_eqb {l : List Value} {K : Value → Heap → Prop} {d : Option Tmp} {ty : TypeId} {pos : String} {af : Array Edge} {g : Option (Nat × Bool)} {p q : Tmp} {t2 : TypeId} {a b : Bool} (hx : get l p = .bool a) (hy : get l q = .bool b) (h : K (.bool (a == b)) H) :
    binW Try.prog ⟨d, .binOp .eql 4 (.tmp p) (.tmp q) t2, ty, pos, af, g⟩ .eql l H (.bool a) (.bool b) K := by
  have hx' : ev l (.tmp p) = .bool a := hx
  have hy' : ev l (.tmp q) = .bool b := hy
  have h2 : execOp (ev l) ⟨d, .binOp .eql 4 (.tmp p) (.tmp q) t2, ty, pos, af, g⟩ = execOp (ev [.bool a, .bool b]) ⟨none, .binOp .eql 4 (.tmp 0) (.tmp 1) 4, 4, "", #[], none⟩ := by
    simp only [execOp]
    rw [hx', hy']
    rfl
  have h1 : plainD Try.prog ⟨d, .binOp .eql 4 (.tmp p) (.tmp q) t2, ty, pos, af, g⟩ l H = some (.bool (a == b), H) := by
    rw [plain_fst _ _ l [.bool a, .bool b] H ?_ h2, binB]
    · rfl
    · show [ev l (.tmp p), ev l (.tmp q)] = _
      rw [hx', hy']
      rfl
  show bindW (opD Try.prog ⟨d, .binOp .eql 4 (.tmp p) (.tmp q) t2, ty, pos, af, g⟩ l H) K
  have h3 : opD Try.prog ⟨d, .binOp .eql 4 (.tmp p) (.tmp q) t2, ty, pos, af, g⟩ l H = some (.bool (a == b), H) := by
    simp only [opD, hx', hy', h1]
  rw [h3]
  exact h

theorem dT_le (N : Nat) (v : Value) (es : List (Nat × Nat)) (hv : Eg H v es) (hN : N ≤ 200) (he : es.length ≤ 1000) (hval : ∀ e ∈ es, e.1 < N ∧ e.2 < N) : ∀ k, k < es.length → dT es N 0 k ≤ N := by
  intro k hk
  have hm := hval _ (getD_mem' (0, 0) hk)
  obtain ⟨_, r, H1, _, w, rfl, hE, _⟩ := turned_ok N v es hv he
  obtain ⟨_, r2, H2, _, d, hd, hdN, _⟩ := distances_ok N w (tE es) hE hN (by rw [tE_length]; exact he) (tE_val hval) (es.getD k (0, 0)).1 0 hm.1 (Nat.zero_le _)
  rw [tE_drop] at hd
  have : dI es N 0 k = d := dist_eq hd
  unfold dT
  rw [this]
  exact hdN _ hm.2

theorem cycles_ok (a : Nat) (ha : a < 256) (v : Value) (ls : List (Nat × Nat)) (hv : Lk H v ls) (hb : ∀ x ∈ ls, x.1 < 256 ∧ x.2 < 256) : Fn Try.prog 4 [U a, v] H fun r H' => r = .bool true := by
  refine Fn.of_wp (fn := Try.f4) rfl rfl (by kernel_rfl) fun l hl => ?_
  have hn : l.length = 46 := by rw [hl]; rfl
  have g0 : get l 0 = U a := by rw [hl]; rfl
  have g1 : get l 1 = v := by rw [hl]; rfl
  clear hl
  have hv0 : Sl2 H v _ _ ls := hv
  repeat first | (with_reducible first | refine Wp.seq ?_ | refine Wp.reg ?_ | refine Wp.block ?_ | refine Wp.skip ?_ | refine Wp.ret ?_ | refine Wp.exit ?_ | refine Wp.label ?_ | refine Wp.condG ?_) | simp (disch := omega) only [↓RP, RQ, TS, TR, ↓reduceIte, Nat.reduceEqDiff, Nat.reduceLT, Nat.reduceLeDiff, Int.reduceLT, Int.reduceLE, Int.reduceEq, Int.reduceAdd, Int.reduceSub, Int.reduceNeg, Int.reduceToNat, Nat.reduceAdd, Nat.reduceMul, Nat.reduceSub, reduceCtorEq, RC, hn, g0, g1]
  refine callFW_of (known_ok H) ?_
  rintro r H1 ⟨rfl, rfl⟩
  repeat first | (with_reducible first | refine Wp.seq ?_ | refine Wp.reg ?_ | refine Wp.block ?_ | refine Wp.skip ?_ | refine Wp.ret ?_ | refine Wp.exit ?_ | refine Wp.label ?_ | refine Wp.condG ?_) | simp (disch := omega) only [↓RP, RQ, TS, TR, ↓reduceIte, Nat.reduceEqDiff, Nat.reduceLT, Nat.reduceLeDiff, Int.reduceLT, Int.reduceLE, Int.reduceEq, Int.reduceAdd, Int.reduceSub, Int.reduceNeg, Int.reduceToNat, Nat.reduceAdd, Nat.reduceMul, Nat.reduceSub, reduceCtorEq, RC, hn, g0, g1, hv0.len]
  refine condW_split (fun h => ?_) (fun h => ?_)
  · repeat first | (with_reducible first | refine Wp.seq ?_ | refine Wp.reg ?_ | refine Wp.block ?_ | refine Wp.skip ?_ | refine Wp.ret ?_ | refine Wp.exit ?_ | refine Wp.label ?_ | refine Wp.condG ?_) | simp (disch := omega) only [↓RP, RQ, TS, TR, ↓reduceIte, Nat.reduceEqDiff, Nat.reduceLT, Nat.reduceLeDiff, Int.reduceLT, Int.reduceLE, Int.reduceEq, Int.reduceAdd, Int.reduceSub, Int.reduceNeg, Int.reduceToNat, Nat.reduceAdd, Nat.reduceMul, Nat.reduceSub, reduceCtorEq, RC, hn, g0, g1]
    refine callFW_of (known_ok _) ?_
    rintro r H1 ⟨rfl, rfl⟩
    repeat first | (with_reducible first | refine Wp.seq ?_ | refine Wp.reg ?_ | refine Wp.block ?_ | refine Wp.skip ?_ | refine Wp.ret ?_ | refine Wp.exit ?_ | refine Wp.label ?_ | refine Wp.condG ?_) | simp (disch := omega) only [↓RP, RQ, TS, TR, ↓reduceIte, Nat.reduceEqDiff, Nat.reduceLT, Nat.reduceLeDiff, Int.reduceLT, Int.reduceLE, Int.reduceEq, Int.reduceAdd, Int.reduceSub, Int.reduceNeg, Int.reduceToNat, Nat.reduceAdd, Nat.reduceMul, Nat.reduceSub, reduceCtorEq, RC, hn, g0, g1]
  repeat first | (with_reducible first | refine Wp.seq ?_ | refine Wp.reg ?_ | refine Wp.block ?_ | refine Wp.skip ?_ | refine Wp.ret ?_ | refine Wp.exit ?_ | refine Wp.label ?_ | refine Wp.condG ?_) | simp (disch := omega) only [↓RP, RQ, TS, TR, ↓reduceIte, Nat.reduceEqDiff, Nat.reduceLT, Nat.reduceLeDiff, Int.reduceLT, Int.reduceLE, Int.reduceEq, Int.reduceAdd, Int.reduceSub, Int.reduceNeg, Int.reduceToNat, Nat.reduceAdd, Nat.reduceMul, Nat.reduceSub, reduceCtorEq, RC, hn, g0, g1]
  refine callFW_of (make_ok a ha v ls hv (by omega) hb) ?_
  rintro r H2 ⟨w, rfl, hE, _⟩
  have hN := mkN_pos a
  have hval := mkE_val a ls
  have hl := mkE_length a ls
  generalize mkE a ls = es at hE hval hl
  generalize mkN a = N at hE hval hN
  repeat first | (with_reducible first | refine Wp.seq ?_ | refine Wp.reg ?_ | refine Wp.block ?_ | refine Wp.skip ?_ | refine Wp.ret ?_ | refine Wp.exit ?_ | refine Wp.label ?_ | refine Wp.condG ?_) | simp (disch := omega) only [↓RP, RQ, TS, TR, ↓reduceIte, Nat.reduceEqDiff, Nat.reduceLT, Nat.reduceLeDiff, Int.reduceLT, Int.reduceLE, Int.reduceEq, Int.reduceAdd, Int.reduceSub, Int.reduceNeg, Int.reduceToNat, Nat.reduceAdd, Nat.reduceMul, Nat.reduceSub, reduceCtorEq, RC, hn, g0, g1]
  refine (St.refl _ H2).eNew 2 [I 0, .slice none 0 0] rfl rfl rfl tS27 fun A H3 hS => ?_
  repeat first | (with_reducible first | refine Wp.seq ?_ | refine Wp.reg ?_ | refine Wp.block ?_ | refine Wp.skip ?_ | refine Wp.ret ?_ | refine Wp.exit ?_ | refine Wp.label ?_ | refine Wp.condG ?_) | simp (disch := omega) only [↓RP, RQ, TS, TR, ↓reduceIte, Nat.reduceEqDiff, Nat.reduceLT, Nat.reduceLeDiff, Int.reduceLT, Int.reduceLE, Int.reduceEq, Int.reduceAdd, Int.reduceSub, Int.reduceNeg, Int.reduceToNat, Nat.reduceAdd, Nat.reduceMul, Nat.reduceSub, reduceCtorEq, RC, hn, g0, g1]
  refine hS.eStore 0 rfl [I N, w] rfl (by simp [hE.one]; rfl) tS27 (by simp) fun H4 hS => ?_
  simp only [List.nil_append, List.cons_append, List.append_nil, List.set_cons_zero, List.set_cons_succ, setMany_cons, setMany_nil, Nat.zero_add, Nat.mul_one, Nat.add_zero] at hS
  repeat first | (with_reducible first | refine Wp.seq ?_ | refine Wp.reg ?_ | refine Wp.block ?_ | refine Wp.skip ?_ | refine Wp.ret ?_ | refine Wp.exit ?_ | refine Wp.label ?_ | refine Wp.condG ?_) | simp (disch := omega) only [↓RP, RQ, TS, TR, ↓reduceIte, Nat.reduceEqDiff, Nat.reduceLT, Nat.reduceLeDiff, Int.reduceLT, Int.reduceLE, Int.reduceEq, Int.reduceAdd, Int.reduceSub, Int.reduceNeg, Int.reduceToNat, Nat.reduceAdd, Nat.reduceMul, Nat.reduceSub, reduceCtorEq, RC, hn, g0, g1, hS.ldA 0 rfl]
  refine callFW_of (cycle_ok N w es (hS.base hE) (by omega) (by omega) hval) ?_
  rintro r H5 ⟨c, wc, hM, hcN, rfl, hS5⟩
  have hS := hS.trans hS5
  simp only [List.nil_append, List.cons_append, List.append_nil, List.set_cons_zero, List.set_cons_succ, setMany_cons, setMany_nil, Nat.zero_add, Nat.mul_one, Nat.add_zero] at hS
  repeat first | (with_reducible first | refine Wp.seq ?_ | refine Wp.reg ?_ | refine Wp.block ?_ | refine Wp.skip ?_ | refine Wp.ret ?_ | refine Wp.exit ?_ | refine Wp.label ?_ | refine Wp.condG ?_) | simp (disch := omega) only [↓RP, RQ, TS, TR, ↓reduceIte, Nat.reduceEqDiff, Nat.reduceLT, Nat.reduceLeDiff, Int.reduceLT, Int.reduceLE, Int.reduceEq, Int.reduceAdd, Int.reduceSub, Int.reduceNeg, Int.reduceToNat, Nat.reduceAdd, Nat.reduceMul, Nat.reduceSub, reduceCtorEq, RC, hn, g0, g1]
  refine Wp.drwT hmix [(1, 4)] (by kernel_rfl) (by kernel_rfl) ?_
  repeat first | (with_reducible first | refine Wp.seq ?_ | refine Wp.reg ?_ | refine Wp.block ?_ | refine Wp.skip ?_ | refine Wp.ret ?_ | refine Wp.exit ?_ | refine Wp.label ?_ | refine Wp.condG ?_) | simp (disch := omega) only [↓RP, RQ, TS, TR, ↓reduceIte, Nat.reduceEqDiff, Nat.reduceLT, Nat.reduceLeDiff, Int.reduceLT, Int.reduceLE, Int.reduceEq, Int.reduceAdd, Int.reduceSub, Int.reduceNeg, Int.reduceToNat, Nat.reduceAdd, Nat.reduceMul, Nat.reduceSub, reduceCtorEq, RC, hn, g0, g1, hS.ldA 0 rfl, hS.ld 0 rfl]
  refine callFW_of (edges_ok N w es (hS.base hE) (by omega)) ?_
  rintro ev H7 ⟨hEv, hS7⟩
  have hS7 := hS.trans hS7
  simp only [List.nil_append, List.cons_append, List.append_nil, List.set_cons_zero, List.set_cons_succ, setMany_cons, setMany_nil, Nat.zero_add, Nat.mul_one, Nat.add_zero] at hS7
  have T := tables N w es hE (by omega) (by omega) hval
  repeat first | (with_reducible first | refine Wp.seq ?_ | refine Wp.reg ?_ | refine Wp.block ?_ | refine Wp.skip ?_ | refine Wp.ret ?_ | refine Wp.exit ?_ | refine Wp.label ?_ | refine Wp.condG ?_) | simp (disch := omega) only [↓RP, RQ, TS, TR, ↓reduceIte, Nat.reduceEqDiff, Nat.reduceLT, Nat.reduceLeDiff, Int.reduceLT, Int.reduceLE, Int.reduceEq, Int.reduceAdd, Int.reduceSub, Int.reduceNeg, Int.reduceToNat, Nat.reduceAdd, Nat.reduceMul, Nat.reduceSub, reduceCtorEq, RC, hn, g0, g1]
  refine callFW_of (refCycle_ok N ev es hEv (by omega) (by omega) hval (dT_le N w es hE (by omega) (by omega) hval) T) ?_
  rintro rv H8 ⟨b, hMb, hbN, hS8⟩
  have hS8 := hS7.trans hS8
  simp only [List.nil_append, List.cons_append, List.append_nil, List.set_cons_zero, List.set_cons_succ, setMany_cons, setMany_nil, Nat.zero_add, Nat.mul_one, Nat.add_zero] at hS8
  have hcb := cycles_same T hM hMb
  subst hcb
  have hwc : Sl1 H8 wc (fun n : Nat => I n) c := hS8.rd 1 rfl
  have hrv : Sl1 H8 rv (fun n : Nat => I n) c := hS8.rd 2 rfl
  have e1 : decide ((0 : Int) < (c.length : Int)) = decide (0 < c.length) := by congr 1; simp
  repeat first | (with_reducible first | refine Wp.seq ?_ | refine Wp.reg ?_ | refine Wp.block ?_ | refine Wp.skip ?_ | refine Wp.ret ?_ | refine Wp.exit ?_ | refine Wp.label ?_ | refine Wp.condG ?_) | simp (disch := omega) only [↓RP, RQ, TS, TR, ↓reduceIte, Nat.reduceEqDiff, Nat.reduceLT, Nat.reduceLeDiff, Int.reduceLT, Int.reduceLE, Int.reduceEq, Int.reduceAdd, Int.reduceSub, Int.reduceNeg, Int.reduceToNat, Nat.reduceAdd, Nat.reduceMul, Nat.reduceSub, reduceCtorEq, RC, hn, g0, g1, hS7.ld 0 rfl, hS8.ld 0 rfl, hrv.len, e1]
  refine binW_eqb (by simp (disch := omega) only [↓RP, RQ, TS, TR, ↓reduceIte, Nat.reduceEqDiff, Nat.reduceLT, Nat.reduceLeDiff, Int.reduceLT, Int.reduceLE, Int.reduceEq, Int.reduceAdd, Int.reduceSub, Int.reduceNeg, Int.reduceToNat, Nat.reduceAdd, Nat.reduceMul, Nat.reduceSub, reduceCtorEq, RC, hn]) (by simp (disch := omega) only [↓RP, RQ, TS, TR, ↓reduceIte, Nat.reduceEqDiff, Nat.reduceLT, Nat.reduceLeDiff, Int.reduceLT, Int.reduceLE, Int.reduceEq, Int.reduceAdd, Int.reduceSub, Int.reduceNeg, Int.reduceToNat, Nat.reduceAdd, Nat.reduceMul, Nat.reduceSub, reduceCtorEq, RC, hn, e1]) ?_
  rw [BEq.rfl]
  repeat first | (with_reducible first | refine Wp.seq ?_ | refine Wp.reg ?_ | refine Wp.block ?_ | refine Wp.skip ?_ | refine Wp.ret ?_ | refine Wp.exit ?_ | refine Wp.label ?_ | refine Wp.condG ?_) | simp (disch := omega) only [↓RP, RQ, TS, TR, ↓reduceIte, Nat.reduceEqDiff, Nat.reduceLT, Nat.reduceLeDiff, Int.reduceLT, Int.reduceLE, Int.reduceEq, Int.reduceAdd, Int.reduceSub, Int.reduceNeg, Int.reduceToNat, Nat.reduceAdd, Nat.reduceMul, Nat.reduceSub, reduceCtorEq, RC, hn, g0, g1]
  refine callFW_of (same_ok wc rv (c.map Nat.cast) (c.map Nat.cast) ?_ ?_ (by rw [List.length_map]; omega)) ?_
  · unfold Sl1
    rw [List.map_map]
    exact hwc
  · unfold Sl1
    rw [List.map_map]
    exact hrv
  rintro r H11 ⟨rfl, rfl⟩
  rw [decide_eq_true rfl]
  repeat first | (with_reducible first | refine Wp.seq ?_ | refine Wp.reg ?_ | refine Wp.block ?_ | refine Wp.skip ?_ | refine Wp.ret ?_ | refine Wp.exit ?_ | refine Wp.label ?_ | refine Wp.condG ?_) | simp (disch := omega) only [↓RP, RQ, TS, TR, ↓reduceIte, Nat.reduceEqDiff, Nat.reduceLT, Nat.reduceLeDiff, Int.reduceLT, Int.reduceLE, Int.reduceEq, Int.reduceAdd, Int.reduceSub, Int.reduceNeg, Int.reduceToNat, Nat.reduceAdd, Nat.reduceMul, Nat.reduceSub, reduceCtorEq, RC, hn, g0, g1]
end Go.Ds
/-
  The law on Order and Longest: its walk.
-/
namespace Go.Ds
open Go.Proofs Go.Plain
variable {H : Heap} {P : Program}

theorem rdW_someG (ops : Array Oper) (d op ty pos af) (j : Nat) (b : Bool) (l : List Value) (H' : Heap) (v : Value) :
    rdW P ops (some ⟨d, op, ty, pos, af, some (j, b)⟩) (some (l, H', v)) H = guardW (dstAt ops j) l b (opW P ⟨d, op, ty, pos, af, some (j, b)⟩ l H fun v' _ => v' = v) True := by
  rw [← wanted_guard (d := d) (op := op) (ty := ty) (pos := pos) (af := af)]
  simp only [rdW]
  by_cases h : Region.wanted ⟨d, op, ty, pos, af, some (j, b)⟩ (yieldedD ops l) = true
  · simp [h]
  · simp [h]

theorem orders_ok (a : Nat) (ha : a < 256) (v : Value) (ls : List (Nat × Nat)) (hv : Lk H v ls) (hb : ∀ x ∈ ls, x.1 < 256 ∧ x.2 < 256) : Fn Try.prog 5 [U a, v] H fun r H' => r = .bool true := by
  refine Fn.of_wp (fn := Try.f5) rfl rfl (by kernel_rfl) fun l hl => ?_
  have hn : l.length = 76 := by rw [hl]; rfl
  have g0 : get l 0 = U a := by rw [hl]; rfl
  have g1 : get l 1 = v := by rw [hl]; rfl
  clear hl
  have hv0 : Sl2 H v _ _ ls := hv
  repeat first | (with_reducible first | refine Wp.seq ?_ | refine Wp.reg ?_ | refine Wp.block ?_ | refine Wp.skip ?_ | refine Wp.ret ?_ | refine Wp.exit ?_ | refine Wp.label ?_ | refine Wp.condG ?_) | simp (disch := omega) only [↓RP, RQ, TS, TR, ↓reduceIte, Nat.reduceEqDiff, Nat.reduceLT, Nat.reduceLeDiff, Int.reduceLT, Int.reduceLE, Int.reduceEq, Int.reduceAdd, Int.reduceSub, Int.reduceNeg, Int.reduceToNat, Nat.reduceAdd, Nat.reduceMul, Nat.reduceSub, reduceCtorEq, RC, Int.cast_ofNat_Int, hn, g0, g1]
  refine callFW_of (known_ok H) ?_
  rintro r H1 ⟨rfl, rfl⟩
  repeat first | (with_reducible first | refine Wp.seq ?_ | refine Wp.reg ?_ | refine Wp.block ?_ | refine Wp.skip ?_ | refine Wp.ret ?_ | refine Wp.exit ?_ | refine Wp.label ?_ | refine Wp.condG ?_) | simp (disch := omega) only [↓RP, RQ, TS, TR, ↓reduceIte, Nat.reduceEqDiff, Nat.reduceLT, Nat.reduceLeDiff, Int.reduceLT, Int.reduceLE, Int.reduceEq, Int.reduceAdd, Int.reduceSub, Int.reduceNeg, Int.reduceToNat, Nat.reduceAdd, Nat.reduceMul, Nat.reduceSub, reduceCtorEq, RC, Int.cast_ofNat_Int, hn, g0, g1, hv0.len]
  refine condW_split (fun h => ?_) (fun h => ?_)
  · repeat first | (with_reducible first | refine Wp.seq ?_ | refine Wp.reg ?_ | refine Wp.block ?_ | refine Wp.skip ?_ | refine Wp.ret ?_ | refine Wp.exit ?_ | refine Wp.label ?_ | refine Wp.condG ?_) | simp (disch := omega) only [↓RP, RQ, TS, TR, ↓reduceIte, Nat.reduceEqDiff, Nat.reduceLT, Nat.reduceLeDiff, Int.reduceLT, Int.reduceLE, Int.reduceEq, Int.reduceAdd, Int.reduceSub, Int.reduceNeg, Int.reduceToNat, Nat.reduceAdd, Nat.reduceMul, Nat.reduceSub, reduceCtorEq, RC, Int.cast_ofNat_Int, hn, g0, g1]
    refine callFW_of (known_ok _) ?_
    rintro r H1 ⟨rfl, rfl⟩
    repeat first | (with_reducible first | refine Wp.seq ?_ | refine Wp.reg ?_ | refine Wp.block ?_ | refine Wp.skip ?_ | refine Wp.ret ?_ | refine Wp.exit ?_ | refine Wp.label ?_ | refine Wp.condG ?_) | simp (disch := omega) only [↓RP, RQ, TS, TR, ↓reduceIte, Nat.reduceEqDiff, Nat.reduceLT, Nat.reduceLeDiff, Int.reduceLT, Int.reduceLE, Int.reduceEq, Int.reduceAdd, Int.reduceSub, Int.reduceNeg, Int.reduceToNat, Nat.reduceAdd, Nat.reduceMul, Nat.reduceSub, reduceCtorEq, RC, Int.cast_ofNat_Int, hn, g0, g1]
  repeat first | (with_reducible first | refine Wp.seq ?_ | refine Wp.reg ?_ | refine Wp.block ?_ | refine Wp.skip ?_ | refine Wp.ret ?_ | refine Wp.exit ?_ | refine Wp.label ?_ | refine Wp.condG ?_) | simp (disch := omega) only [↓RP, RQ, TS, TR, ↓reduceIte, Nat.reduceEqDiff, Nat.reduceLT, Nat.reduceLeDiff, Int.reduceLT, Int.reduceLE, Int.reduceEq, Int.reduceAdd, Int.reduceSub, Int.reduceNeg, Int.reduceToNat, Nat.reduceAdd, Nat.reduceMul, Nat.reduceSub, reduceCtorEq, RC, Int.cast_ofNat_Int, hn, g0, g1]
  refine callFW_of (make_ok a ha v ls hv (by omega) hb) ?_
  rintro r H2 ⟨w, rfl, hE, _⟩
  have hN := mkN_pos a
  have hval := mkE_val a ls
  have hl := mkE_length a ls
  generalize mkE a ls = es at hE hval hl
  generalize mkN a = N at hE hval hN
  have T := tables N w es hE (by omega) (by omega) hval
  have hdT := dT_le N w es hE (by omega) (by omega) hval
  repeat first | (with_reducible first | refine Wp.seq ?_ | refine Wp.reg ?_ | refine Wp.block ?_ | refine Wp.skip ?_ | refine Wp.ret ?_ | refine Wp.exit ?_ | refine Wp.label ?_ | refine Wp.condG ?_) | simp (disch := omega) only [↓RP, RQ, TS, TR, ↓reduceIte, Nat.reduceEqDiff, Nat.reduceLT, Nat.reduceLeDiff, Int.reduceLT, Int.reduceLE, Int.reduceEq, Int.reduceAdd, Int.reduceSub, Int.reduceNeg, Int.reduceToNat, Nat.reduceAdd, Nat.reduceMul, Nat.reduceSub, reduceCtorEq, RC, Int.cast_ofNat_Int, hn, g0, g1]
  refine (St.refl _ H2).eNew 2 [I 0, .slice none 0 0] rfl rfl rfl tS27 fun A H3 hS => ?_
  repeat first | (with_reducible first | refine Wp.seq ?_ | refine Wp.reg ?_ | refine Wp.block ?_ | refine Wp.skip ?_ | refine Wp.ret ?_ | refine Wp.exit ?_ | refine Wp.label ?_ | refine Wp.condG ?_) | simp (disch := omega) only [↓RP, RQ, TS, TR, ↓reduceIte, Nat.reduceEqDiff, Nat.reduceLT, Nat.reduceLeDiff, Int.reduceLT, Int.reduceLE, Int.reduceEq, Int.reduceAdd, Int.reduceSub, Int.reduceNeg, Int.reduceToNat, Nat.reduceAdd, Nat.reduceMul, Nat.reduceSub, reduceCtorEq, RC, Int.cast_ofNat_Int, hn, g0, g1]
  refine hS.eStore 0 rfl [I N, w] rfl (by simp [hE.one]; rfl) tS27 (by simp) fun H4 hS => ?_
  simp only [List.nil_append, List.cons_append, List.append_nil, List.set_cons_zero, List.set_cons_succ, setMany_cons, setMany_nil, Nat.zero_add, Nat.mul_one, Nat.add_zero] at hS
  repeat first | (with_reducible first | refine Wp.seq ?_ | refine Wp.reg ?_ | refine Wp.block ?_ | refine Wp.skip ?_ | refine Wp.ret ?_ | refine Wp.exit ?_ | refine Wp.label ?_ | refine Wp.condG ?_) | simp (disch := omega) only [↓RP, RQ, TS, TR, ↓reduceIte, Nat.reduceEqDiff, Nat.reduceLT, Nat.reduceLeDiff, Int.reduceLT, Int.reduceLE, Int.reduceEq, Int.reduceAdd, Int.reduceSub, Int.reduceNeg, Int.reduceToNat, Nat.reduceAdd, Nat.reduceMul, Nat.reduceSub, reduceCtorEq, RC, Int.cast_ofNat_Int, hn, g0, g1, hS.ldA 0 rfl]
  refine callFW_of (order_ok N w es (hS.base hE) (by omega) (by omega) hval) ?_
  by_cases hcy : ∃ n a, W es (n + 1) a a
  · have hfull : ∀ out, Top es N out → out.length ≠ N := by
      intro out hT ho
      obtain ⟨n, x, hw⟩ := hcy
      have hw2 := hw
      obtain ⟨c, _, he⟩ := hw2
      exact hT.around n x (nodup_all hT.nodup hT.lt ho x (hval _ he).2) hw
    rintro r H5 ⟨o1, w1, hT1, ⟨ho1, _, _⟩ | ⟨_, _, rfl, hS5⟩⟩
    · exact absurd ho1 (hfull _ hT1)
    have hS := hS.trans hS5
    simp only [List.nil_append, List.cons_append, List.append_nil, List.set_cons_zero, List.set_cons_succ, setMany_cons, setMany_nil, Nat.zero_add, Nat.mul_one, Nat.add_zero] at hS
    repeat first | (with_reducible first | refine Wp.seq ?_ | refine Wp.reg ?_ | refine Wp.block ?_ | refine Wp.skip ?_ | refine Wp.ret ?_ | refine Wp.exit ?_ | refine Wp.label ?_ | refine Wp.condG ?_) | simp (disch := omega) only [↓RP, RQ, TS, TR, ↓reduceIte, Nat.reduceEqDiff, Nat.reduceLT, Nat.reduceLeDiff, Int.reduceLT, Int.reduceLE, Int.reduceEq, Int.reduceAdd, Int.reduceSub, Int.reduceNeg, Int.reduceToNat, Nat.reduceAdd, Nat.reduceMul, Nat.reduceSub, reduceCtorEq, RC, Int.cast_ofNat_Int, hn, g0, g1, hS.ldA 0 rfl]
    refine callFW_of (longest_ok N w es (hS.base hE) (by omega) (by omega) hval) ?_
    rintro r H6 ⟨o2, hT2, ⟨ho2, _⟩ | ⟨_, _, rfl, hS6⟩⟩
    · exact absurd ho2 (hfull _ hT2)
    have hS := hS.trans hS6
    simp only [List.nil_append, List.cons_append, List.append_nil, List.set_cons_zero, List.set_cons_succ, setMany_cons, setMany_nil, Nat.zero_add, Nat.mul_one, Nat.add_zero] at hS
    repeat first | (with_reducible first | refine Wp.seq ?_ | refine Wp.reg ?_ | refine Wp.block ?_ | refine Wp.skip ?_ | refine Wp.ret ?_ | refine Wp.exit ?_ | refine Wp.label ?_ | refine Wp.condG ?_) | simp (disch := omega) only [↓RP, RQ, TS, TR, ↓reduceIte, Nat.reduceEqDiff, Nat.reduceLT, Nat.reduceLeDiff, Int.reduceLT, Int.reduceLE, Int.reduceEq, Int.reduceAdd, Int.reduceSub, Int.reduceNeg, Int.reduceToNat, Nat.reduceAdd, Nat.reduceMul, Nat.reduceSub, reduceCtorEq, RC, Int.cast_ofNat_Int, hn, g0, g1]
    refine Wp.drwT hmix [(1, 4)] (by kernel_rfl) (by kernel_rfl) ?_
    repeat first | (with_reducible first | refine Wp.seq ?_ | refine Wp.reg ?_ | refine Wp.block ?_ | refine Wp.skip ?_ | refine Wp.ret ?_ | refine Wp.exit ?_ | refine Wp.label ?_ | refine Wp.condG ?_) | simp (disch := omega) only [↓RP, RQ, TS, TR, ↓reduceIte, Nat.reduceEqDiff, Nat.reduceLT, Nat.reduceLeDiff, Int.reduceLT, Int.reduceLE, Int.reduceEq, Int.reduceAdd, Int.reduceSub, Int.reduceNeg, Int.reduceToNat, Nat.reduceAdd, Nat.reduceMul, Nat.reduceSub, reduceCtorEq, RC, Int.cast_ofNat_Int, hn, g0, g1, hS.ldA 0 rfl, hS.ld 0 rfl]
    refine callFW_of (edges_ok N w es (hS.base hE) (by omega)) ?_
    rintro ev H7 ⟨hEv, hS7⟩
    have hS7 := hS.trans hS7
    simp only [List.nil_append, List.cons_append, List.append_nil, List.set_cons_zero, List.set_cons_succ, setMany_cons, setMany_nil, Nat.zero_add, Nat.mul_one, Nat.add_zero] at hS7
    repeat first | (with_reducible first | refine Wp.seq ?_ | refine Wp.reg ?_ | refine Wp.block ?_ | refine Wp.skip ?_ | refine Wp.ret ?_ | refine Wp.exit ?_ | refine Wp.label ?_ | refine Wp.condG ?_) | simp (disch := omega) only [↓RP, RQ, TS, TR, ↓reduceIte, Nat.reduceEqDiff, Nat.reduceLT, Nat.reduceLeDiff, Int.reduceLT, Int.reduceLE, Int.reduceEq, Int.reduceAdd, Int.reduceSub, Int.reduceNeg, Int.reduceToNat, Nat.reduceAdd, Nat.reduceMul, Nat.reduceSub, reduceCtorEq, RC, Int.cast_ofNat_Int, hn, g0, g1]
    refine callFW_of (refCycle_ok N ev es hEv (by omega) (by omega) hval hdT T) ?_
    rintro rv H8 ⟨b, hMb, hbN, hS8⟩
    have hS8 := hS7.trans hS8
    simp only [List.nil_append, List.cons_append, List.append_nil, List.set_cons_zero, List.set_cons_succ, setMany_cons, setMany_nil, Nat.zero_add, Nat.mul_one, Nat.add_zero] at hS8
    have hbl := (cycle_iff T hMb).2 hcy
    have hrv : Sl1 H8 rv (fun n : Nat => I n) b := hS8.rd 1 rfl
    have e1 : decide ((0 : Int) < (b.length : Int)) = true := decide_eq_true (by omega)
    have hnil : Sl1 H8 (.slice none 0 0) (fun n : Nat => I n) [] := (hS8.nil 0).front.rd 0 rfl
    repeat first | (with_reducible first | refine Wp.seq ?_ | refine Wp.reg ?_ | refine Wp.block ?_ | refine Wp.skip ?_ | refine Wp.ret ?_ | refine Wp.exit ?_ | refine Wp.label ?_ | refine Wp.condG ?_) | simp (disch := omega) only [↓RP, RQ, TS, TR, ↓reduceIte, Nat.reduceEqDiff, Nat.reduceLT, Nat.reduceLeDiff, Int.reduceLT, Int.reduceLE, Int.reduceEq, Int.reduceAdd, Int.reduceSub, Int.reduceNeg, Int.reduceToNat, Nat.reduceAdd, Nat.reduceMul, Nat.reduceSub, reduceCtorEq, RC, Int.cast_ofNat_Int, hn, g0, g1, hS7.ld 0 rfl, hS8.ld 0 rfl, hrv.len, e1, hnil.len, wrap_fit]
  · have hno : ∀ n a, ¬ W es (n + 1) a a := fun n a hw => hcy ⟨n, a, hw⟩
    rintro r H5 ⟨o1, w1, hT1, ⟨ho1, rfl, hS5⟩ | ⟨hlt, hst, _, _⟩⟩
    case inr =>
      obtain ⟨i, hi, hr, _⟩ := Top.more hval hno hlt
      exact absurd hr (hst i hi)
    have hS := hS.trans hS5
    simp only [List.nil_append, List.cons_append, List.append_nil, List.set_cons_zero, List.set_cons_succ, setMany_cons, setMany_nil, Nat.zero_add, Nat.mul_one, Nat.add_zero] at hS
    repeat first | (with_reducible first | refine Wp.seq ?_ | refine Wp.reg ?_ | refine Wp.block ?_ | refine Wp.skip ?_ | refine Wp.ret ?_ | refine Wp.exit ?_ | refine Wp.label ?_ | refine Wp.condG ?_) | simp (disch := omega) only [↓RP, RQ, TS, TR, ↓reduceIte, Nat.reduceEqDiff, Nat.reduceLT, Nat.reduceLeDiff, Int.reduceLT, Int.reduceLE, Int.reduceEq, Int.reduceAdd, Int.reduceSub, Int.reduceNeg, Int.reduceToNat, Nat.reduceAdd, Nat.reduceMul, Nat.reduceSub, reduceCtorEq, RC, Int.cast_ofNat_Int, hn, g0, g1, hS.ldA 0 rfl]
    refine callFW_of (longest_ok N w es (hS.base hE) (by omega) (by omega) hval) ?_
    rintro r H6 ⟨o2, hT2, ⟨ho2, w2, d, hL, rfl, hS6⟩ | ⟨hlt, hst, _, _⟩⟩
    case inr =>
      obtain ⟨i, hi, hr, _⟩ := Top.more hval hno hlt
      exact absurd hr (hst i hi)
    have hS := hS.trans hS6
    simp only [List.nil_append, List.cons_append, List.append_nil, List.set_cons_zero, List.set_cons_succ, setMany_cons, setMany_nil, Nat.zero_add, Nat.mul_one, Nat.add_zero] at hS
    repeat first | (with_reducible first | refine Wp.seq ?_ | refine Wp.reg ?_ | refine Wp.block ?_ | refine Wp.skip ?_ | refine Wp.ret ?_ | refine Wp.exit ?_ | refine Wp.label ?_ | refine Wp.condG ?_) | simp (disch := omega) only [↓RP, RQ, TS, TR, ↓reduceIte, Nat.reduceEqDiff, Nat.reduceLT, Nat.reduceLeDiff, Int.reduceLT, Int.reduceLE, Int.reduceEq, Int.reduceAdd, Int.reduceSub, Int.reduceNeg, Int.reduceToNat, Nat.reduceAdd, Nat.reduceMul, Nat.reduceSub, reduceCtorEq, RC, Int.cast_ofNat_Int, hn, g0, g1]
    refine Wp.drwT hmix [(1, 4)] (by kernel_rfl) (by kernel_rfl) ?_
    repeat first | (with_reducible first | refine Wp.seq ?_ | refine Wp.reg ?_ | refine Wp.block ?_ | refine Wp.skip ?_ | refine Wp.ret ?_ | refine Wp.exit ?_ | refine Wp.label ?_ | refine Wp.condG ?_) | simp (disch := omega) only [↓RP, RQ, TS, TR, ↓reduceIte, Nat.reduceEqDiff, Nat.reduceLT, Nat.reduceLeDiff, Int.reduceLT, Int.reduceLE, Int.reduceEq, Int.reduceAdd, Int.reduceSub, Int.reduceNeg, Int.reduceToNat, Nat.reduceAdd, Nat.reduceMul, Nat.reduceSub, reduceCtorEq, RC, Int.cast_ofNat_Int, hn, g0, g1, hS.ldA 0 rfl, hS.ld 0 rfl]
    refine callFW_of (edges_ok N w es (hS.base hE) (by omega)) ?_
    rintro ev H7 ⟨hEv, hS7⟩
    have hS7 := hS.trans hS7
    simp only [List.nil_append, List.cons_append, List.append_nil, List.set_cons_zero, List.set_cons_succ, setMany_cons, setMany_nil, Nat.zero_add, Nat.mul_one, Nat.add_zero] at hS7
    repeat first | (with_reducible first | refine Wp.seq ?_ | refine Wp.reg ?_ | refine Wp.block ?_ | refine Wp.skip ?_ | refine Wp.ret ?_ | refine Wp.exit ?_ | refine Wp.label ?_ | refine Wp.condG ?_) | simp (disch := omega) only [↓RP, RQ, TS, TR, ↓reduceIte, Nat.reduceEqDiff, Nat.reduceLT, Nat.reduceLeDiff, Int.reduceLT, Int.reduceLE, Int.reduceEq, Int.reduceAdd, Int.reduceSub, Int.reduceNeg, Int.reduceToNat, Nat.reduceAdd, Nat.reduceMul, Nat.reduceSub, reduceCtorEq, RC, Int.cast_ofNat_Int, hn, g0, g1]
    refine callFW_of (refCycle_ok N ev es hEv (by omega) (by omega) hval hdT T) ?_
    rintro rv H8 ⟨b, hMb, hbN, hS8⟩
    have hS8 := hS7.trans hS8
    simp only [List.nil_append, List.cons_append, List.append_nil, List.set_cons_zero, List.set_cons_succ, setMany_cons, setMany_nil, Nat.zero_add, Nat.mul_one, Nat.add_zero] at hS8
    have hbl : ¬ 0 < b.length := fun hh => hcy ((cycle_iff T hMb).1 hh)
    have hrv : Sl1 H8 rv (fun n : Nat => I n) b := hS8.rd 3 rfl
    have e1 : decide ((0 : Int) < (b.length : Int)) = false := decide_eq_false (by omega)
    repeat first | (with_reducible first | refine Wp.seq ?_ | refine Wp.reg ?_ | refine Wp.block ?_ | refine Wp.skip ?_ | refine Wp.ret ?_ | refine Wp.exit ?_ | refine Wp.label ?_ | refine Wp.condG ?_) | simp (disch := omega) only [↓RP, RQ, TS, TR, ↓reduceIte, Nat.reduceEqDiff, Nat.reduceLT, Nat.reduceLeDiff, Int.reduceLT, Int.reduceLE, Int.reduceEq, Int.reduceAdd, Int.reduceSub, Int.reduceNeg, Int.reduceToNat, Nat.reduceAdd, Nat.reduceMul, Nat.reduceSub, reduceCtorEq, RC, Int.cast_ofNat_Int, hn, g0, g1, hS7.ld 0 rfl, hS8.ld 0 rfl, hrv.len, e1]
    refine Wp.drwT hmix [(9, 12), (18, 21)] (by kernel_rfl) (by kernel_rfl) ?_
    repeat first | (with_reducible first | refine Wp.seq ?_ | refine Wp.reg ?_ | refine Wp.block ?_ | refine Wp.skip ?_ | refine Wp.ret ?_ | refine Wp.exit ?_ | refine Wp.label ?_ | refine Wp.condG ?_) | simp (disch := omega) only [↓RP, RQ, TS, TR, ↓reduceIte, Nat.reduceEqDiff, Nat.reduceLT, Nat.reduceLeDiff, Int.reduceLT, Int.reduceLE, Int.reduceEq, Int.reduceAdd, Int.reduceSub, Int.reduceNeg, Int.reduceToNat, Nat.reduceAdd, Nat.reduceMul, Nat.reduceSub, reduceCtorEq, RC, Int.cast_ofNat_Int, hn, g0, g1, hS8.ldA 0 rfl, hS8.ld 0 rfl]
    refine callFW_of (edges_ok N w es (hS8.base hE) (by omega)) ?_
    rintro ev2 H9 ⟨hEv2, hS9⟩
    have hS9 := hS8.trans hS9
    simp only [List.nil_append, List.cons_append, List.append_nil, List.set_cons_zero, List.set_cons_succ, setMany_cons, setMany_nil, Nat.zero_add, Nat.mul_one, Nat.add_zero] at hS9
    repeat first | (with_reducible first | refine Wp.seq ?_ | refine Wp.reg ?_ | refine Wp.block ?_ | refine Wp.skip ?_ | refine Wp.ret ?_ | refine Wp.exit ?_ | refine Wp.label ?_ | refine Wp.condG ?_) | simp (disch := omega) only [↓RP, RQ, TS, TR, ↓reduceIte, Nat.reduceEqDiff, Nat.reduceLT, Nat.reduceLeDiff, Int.reduceLT, Int.reduceLE, Int.reduceEq, Int.reduceAdd, Int.reduceSub, Int.reduceNeg, Int.reduceToNat, Nat.reduceAdd, Nat.reduceMul, Nat.reduceSub, reduceCtorEq, RC, Int.cast_ofNat_Int, hn, g0, g1]
    refine callFW_of (refOrder_ok N ev2 es hEv2 (by omega) (by omega) hval hno) ?_
    rintro r3 H10 ⟨o3, hT3, ho3, hS10⟩
    have hS10 := hS9.trans hS10
    simp only [List.nil_append, List.cons_append, List.append_nil, List.set_cons_zero, List.set_cons_succ, setMany_cons, setMany_nil, Nat.zero_add, Nat.mul_one, Nat.add_zero] at hS10
    obtain rfl := Top.uniq hT1 hT3 (by omega)
    have h1 : Sl1 H10 w1 (fun n : Nat => I n) o1 := hS10.rd 1 rfl
    have h2 : Sl1 H10 r3 (fun n : Nat => I n) o1 := hS10.rd 4 rfl
    repeat first | (with_reducible first | refine Wp.seq ?_ | refine Wp.reg ?_ | refine Wp.block ?_ | refine Wp.skip ?_ | refine Wp.ret ?_ | refine Wp.exit ?_ | refine Wp.label ?_ | refine Wp.condG ?_) | simp (disch := omega) only [↓RP, RQ, TS, TR, ↓reduceIte, Nat.reduceEqDiff, Nat.reduceLT, Nat.reduceLeDiff, Int.reduceLT, Int.reduceLE, Int.reduceEq, Int.reduceAdd, Int.reduceSub, Int.reduceNeg, Int.reduceToNat, Nat.reduceAdd, Nat.reduceMul, Nat.reduceSub, reduceCtorEq, RC, Int.cast_ofNat_Int, hn, g0, g1]
    refine callFW_of (same_ok w1 r3 (o1.map Nat.cast) (o1.map Nat.cast) ?_ ?_ (by rw [List.length_map]; omega)) ?_
    · unfold Sl1
      rw [List.map_map]
      exact h1
    · unfold Sl1
      rw [List.map_map]
      exact h2
    rintro r H11 ⟨rfl, rfl⟩
    rw [decide_eq_true rfl]
    repeat first | (with_reducible first | refine Wp.seq ?_ | refine Wp.reg ?_ | refine Wp.block ?_ | refine Wp.skip ?_ | refine Wp.ret ?_ | refine Wp.exit ?_ | refine Wp.label ?_ | refine Wp.condG ?_) | simp (disch := omega) only [↓RP, RQ, TS, TR, ↓reduceIte, Nat.reduceEqDiff, Nat.reduceLT, Nat.reduceLeDiff, Int.reduceLT, Int.reduceLE, Int.reduceEq, Int.reduceAdd, Int.reduceSub, Int.reduceNeg, Int.reduceToNat, Nat.reduceAdd, Nat.reduceMul, Nat.reduceSub, reduceCtorEq, RC, Int.cast_ofNat_Int, hn, g0, g1, hS10.ldA 0 rfl, hS10.ld 0 rfl]
    refine callFW_of (edges_ok N w es (hS10.base hE) (by omega)) ?_
    rintro ev3 H12 ⟨hEv3, hS12⟩
    have hS12 := hS10.trans hS12
    simp only [List.nil_append, List.cons_append, List.append_nil, List.set_cons_zero, List.set_cons_succ, setMany_cons, setMany_nil, Nat.zero_add, Nat.mul_one, Nat.add_zero] at hS12
    repeat first | (with_reducible first | refine Wp.seq ?_ | refine Wp.reg ?_ | refine Wp.block ?_ | refine Wp.skip ?_ | refine Wp.ret ?_ | refine Wp.exit ?_ | refine Wp.label ?_ | refine Wp.condG ?_) | simp (disch := omega) only [↓RP, RQ, TS, TR, ↓reduceIte, Nat.reduceEqDiff, Nat.reduceLT, Nat.reduceLeDiff, Int.reduceLT, Int.reduceLE, Int.reduceEq, Int.reduceAdd, Int.reduceSub, Int.reduceNeg, Int.reduceToNat, Nat.reduceAdd, Nat.reduceMul, Nat.reduceSub, reduceCtorEq, RC, Int.cast_ofNat_Int, hn, g0, g1]
    refine callFW_of (refLongest_ok N ev3 es hEv3 (by omega) (by omega) hval o1 hT1 ho1) ?_
    rintro r4 H13 ⟨d4, hL4, hS13⟩
    have hS13 := hS12.trans hS13
    simp only [List.nil_append, List.cons_append, List.append_nil, List.set_cons_zero, List.set_cons_succ, setMany_cons, setMany_nil, Nat.zero_add, Nat.mul_one, Nat.add_zero] at hS13
    obtain rfl := hL.eq hL4 hval
    have hdl := hL.len
    repeat first | (with_reducible first | refine Wp.seq ?_ | refine Wp.reg ?_ | refine Wp.block ?_ | refine Wp.skip ?_ | refine Wp.ret ?_ | refine Wp.exit ?_ | refine Wp.label ?_ | refine Wp.condG ?_) | simp (disch := omega) only [↓RP, RQ, TS, TR, ↓reduceIte, Nat.reduceEqDiff, Nat.reduceLT, Nat.reduceLeDiff, Int.reduceLT, Int.reduceLE, Int.reduceEq, Int.reduceAdd, Int.reduceSub, Int.reduceNeg, Int.reduceToNat, Nat.reduceAdd, Nat.reduceMul, Nat.reduceSub, reduceCtorEq, RC, Int.cast_ofNat_Int, hn, g0, g1]
    refine callFW_of (same_ok w2 r4 d d (hS13.rd 2 rfl) (hS13.rd 5 rfl) (by omega)) ?_
    rintro r H14 ⟨rfl, rfl⟩
    rw [decide_eq_true rfl]
    repeat first | (with_reducible first | refine Wp.seq ?_ | refine Wp.reg ?_ | refine Wp.block ?_ | refine Wp.skip ?_ | refine Wp.ret ?_ | refine Wp.exit ?_ | refine Wp.label ?_ | refine Wp.condG ?_) | simp (disch := omega) only [↓RP, RQ, TS, TR, ↓reduceIte, Nat.reduceEqDiff, Nat.reduceLT, Nat.reduceLeDiff, Int.reduceLT, Int.reduceLE, Int.reduceEq, Int.reduceAdd, Int.reduceSub, Int.reduceNeg, Int.reduceToNat, Nat.reduceAdd, Nat.reduceMul, Nat.reduceSub, reduceCtorEq, RC, Int.cast_ofNat_Int, hn, g0, g1, rdW_someG, hS9.ld 0 rfl, hS12.ld 0 rfl]
end Go.Ds
