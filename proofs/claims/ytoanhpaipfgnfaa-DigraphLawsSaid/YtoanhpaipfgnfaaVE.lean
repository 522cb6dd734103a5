/-
  Contracts: Needed.
-/
import Derived.Test.YtoanhpaipfgnfaaVD
import Derived.Test.YtoanhpaipfgnfaaVC
import Derived.Test.YtoanhpaipfgnfaaVB
import Derived.ProofKit
import Derived.Deep.SlicePairs
set_option linter.unusedVariables false
set_option linter.unusedSimpArgs false
namespace Go.Ds
open Go.Proofs Go.Plain
variable {H : Heap}

open Classical in
noncomputable def impB (es : List (Nat × Nat)) (k j : Nat) : Bool := decide (impP es k j)
theorem impB_iff (es : List (Nat × Nat)) (k j : Nat) : impB es k j = true ↔ impP es k j := by
  unfold impB
  exact @decide_eq_true_iff _ (Classical.propDecidable _)
theorem impB_zero (es : List (Nat × Nat)) (k : Nat) : impB es k 0 = false := by
  cases h : impB es k 0 with
  | false => rfl
  | true => obtain ⟨_, h, _⟩ := (impB_iff es k 0).1 h; exact absurd h (Nat.not_lt_zero _)
theorem impB_skip (es : List (Nat × Nat)) (k j : Nat) (h : (es.getD j (0, 0)).1 ≠ (es.getD k (0, 0)).1) : impB es k (j + 1) = impB es k j := by
  rw [Bool.eq_iff_iff, impB_iff, impB_iff, impP_succ]
  exact ⟨fun hh => hh.resolve_right fun h2 => h h2.1, .inl⟩
theorem impB_step {N : Nat} {es : List (Nat × Nat)} {ds : Nat → List Int} {k j : Nat} (hval : ∀ e ∈ es, e.1 < N ∧ e.2 < N) (hds : ∀ i, i < N → IsD es N i (ds i)) (hk : k < es.length) (hj : j < es.length) (h : (es.getD j (0, 0)).1 = (es.getD k (0, 0)).1) :
    impB es k (j + 1) = (impB es k j || (if (es.getD j (0, 0)).2 = (es.getD k (0, 0)).2 then decide (j < k) else decide (0 ≤ (ds (es.getD j (0, 0)).2).getD (es.getD k (0, 0)).2 0))) := by
  have hmk := hval _ (getD_mem (0, 0) hk)
  have hmj := hval _ (getD_mem (0, 0) hj)
  have hd := hds _ hmj.2
  rw [Bool.eq_iff_iff, Bool.or_eq_true]
  rw [impB_iff, impB_iff, impP_succ]
  refine or_congr Iff.rfl ?_
  by_cases c : (es.getD j (0, 0)).2 = (es.getD k (0, 0)).2
  · rw [if_pos c, decide_eq_true_eq]
    exact ⟨fun h2 => h2.2.elim (fun h3 => (h3.1 c).elim) (·.2), fun h2 => ⟨h, .inr ⟨c, h2⟩⟩⟩
  · rw [if_neg c, decide_eq_true_eq]
    constructor
    · rintro ⟨_, ⟨_, n, hw⟩ | h3⟩
      · apply Classical.byContradiction
        intro hh
        exact (hd.neg _ hmk.2 (by omega)).2 _ hw
      · exact (c h3.1).elim
    · intro h2
      refine ⟨h, .inl ⟨c, ?_⟩⟩
      have h3 := (hd.pos _ hmk.2 h2).1
      cases hn : ((ds (es.getD j (0, 0)).2).getD (es.getD k (0, 0)).2 0).toNat with
      | zero => rw [hn] at h3; exact (c h3).elim
      | succ n => rw [hn] at h3; exact ⟨n, h3⟩

theorem needed_ok (N : Nat) (v : Value) (es : List (Nat × Nat)) (hv : Eg H v es) (hN : N ≤ 200) (he : es.length ≤ 1000) (hval : ∀ e ∈ es, e.1 < N ∧ e.2 < N) :
    Fn Try.prog 29 [.agg #[I N, v]] H fun r H' => ∃ out : List Nat, Top es N out ∧ ((out.length = N ∧ ∃ w, r = .tuple #[w, I 0] ∧ St Try.prog H H' [⟨w, 1, nts (ndd es es.length)⟩]) ∨
      (out.length < N ∧ (∀ i, i < N → ¬ rdy es out i) ∧ r = .tuple #[.slice none 0 0, I 22] ∧ St Try.prog H H' [])) := by
  have hrl : (List.range N).length = N := List.length_range
  refine Fn.of_wp (fn := Try.f29) rfl rfl (by kernel_rfl) fun l hl => ?_
  have hn : l.length = 78 := by rw [hl]; rfl
  have g0 : get l 0 = .agg #[I N, v] := by rw [hl]; rfl
  clear hl
  repeat first | (with_reducible first | refine Wp.seq ?_ | refine Wp.reg ?_ | refine Wp.block ?_ | refine Wp.skip ?_ | refine Wp.ret ?_ | refine Wp.exit ?_ | refine Wp.label ?_ | refine Wp.condG ?_) | simp (disch := omega) only [↓RP, RQ, TS, TR, ↓reduceIte, Nat.reduceEqDiff, Nat.reduceLT, Nat.reduceLeDiff, Int.reduceLT, Int.reduceLE, Int.reduceEq, Int.reduceAdd, Int.reduceSub, Int.reduceNeg, Int.reduceToNat, Nat.reduceAdd, Nat.reduceMul, Nat.reduceSub, reduceCtorEq, RC, Int.cast_ofNat_Int, hn, g0]
  refine (St.refl _ H).eNew 2 [I N, v] rfl rfl (by simp [hv.one]; rfl) tS27 fun A H1 hS => ?_
  repeat first | (with_reducible first | refine Wp.seq ?_ | refine Wp.reg ?_ | refine Wp.block ?_ | refine Wp.skip ?_ | refine Wp.ret ?_ | refine Wp.exit ?_ | refine Wp.label ?_ | refine Wp.condG ?_) | simp (disch := omega) only [↓RP, RQ, TS, TR, ↓reduceIte, Nat.reduceEqDiff, Nat.reduceLT, Nat.reduceLeDiff, Int.reduceLT, Int.reduceLE, Int.reduceEq, Int.reduceAdd, Int.reduceSub, Int.reduceNeg, Int.reduceToNat, Nat.reduceAdd, Nat.reduceMul, Nat.reduceSub, reduceCtorEq, RC, Int.cast_ofNat_Int, hn, g0, hS.ldA 0 rfl]
  refine callFW_of (order_ok N v es (hS.base hv) hN he hval) ?_
  rintro r H2 ⟨out, w, hT, ⟨hoN, rfl, hS2⟩ | ⟨hlt, hst, rfl, hS2⟩⟩
  · have hS := (hS.trans hS2).sub (os' := [⟨ptr A 0 2, 0, [I N, v]⟩]) (by simp)
    repeat first | (with_reducible first | refine Wp.seq ?_ | refine Wp.reg ?_ | refine Wp.block ?_ | refine Wp.skip ?_ | refine Wp.ret ?_ | refine Wp.exit ?_ | refine Wp.label ?_ | refine Wp.condG ?_) | simp (disch := omega) only [↓RP, RQ, TS, TR, ↓reduceIte, Nat.reduceEqDiff, Nat.reduceLT, Nat.reduceLeDiff, Int.reduceLT, Int.reduceLE, Int.reduceEq, Int.reduceAdd, Int.reduceSub, Int.reduceNeg, Int.reduceToNat, Nat.reduceAdd, Nat.reduceMul, Nat.reduceSub, reduceCtorEq, RC, Int.cast_ofNat_Int, hn, g0, hS.ldA 0 rfl]
    refine callFW_of (reached_ok N v es (hS.base hv) hN he hval) ?_
    rintro wr H4 ⟨ws, ds, hds, hS2⟩
    have hS := hS.trans hS2
    simp only [List.nil_append, List.cons_append, List.append_nil, List.set_cons_zero, List.set_cons_succ, setMany_cons, setMany_nil, Nat.zero_add, Nat.mul_one, Nat.add_zero] at hS
    repeat first | (with_reducible first | refine Wp.seq ?_ | refine Wp.reg ?_ | refine Wp.block ?_ | refine Wp.skip ?_ | refine Wp.ret ?_ | refine Wp.exit ?_ | refine Wp.label ?_ | refine Wp.condG ?_) | simp (disch := omega) only [↓RP, RQ, TS, TR, ↓reduceIte, Nat.reduceEqDiff, Nat.reduceLT, Nat.reduceLeDiff, Int.reduceLT, Int.reduceLE, Int.reduceEq, Int.reduceAdd, Int.reduceSub, Int.reduceNeg, Int.reduceToNat, Nat.reduceAdd, Nat.reduceMul, Nat.reduceSub, reduceCtorEq, RC, Int.cast_ofNat_Int, hn, g0, tZ71]
    refine hS.eNew 1 [.slice none 0 0] rfl rfl rfl tS71 fun B H5 hS => ?_
    have hS := hS.front
    have hw := (hS.rd 2 rfl).cells
    repeat first | (with_reducible first | refine Wp.seq ?_ | refine Wp.reg ?_ | refine Wp.block ?_ | refine Wp.skip ?_ | refine Wp.ret ?_ | refine Wp.exit ?_ | refine Wp.label ?_ | refine Wp.condG ?_) | simp (disch := omega) only [↓RP, RQ, TS, TR, ↓reduceIte, Nat.reduceEqDiff, Nat.reduceLT, Nat.reduceLeDiff, Int.reduceLT, Int.reduceLE, Int.reduceEq, Int.reduceAdd, Int.reduceSub, Int.reduceNeg, Int.reduceToNat, Nat.reduceAdd, Nat.reduceMul, Nat.reduceSub, reduceCtorEq, RC, Int.cast_ofNat_Int, hn, g0]
    refine hS.eStore 0 rfl [wr] (by rw [hw.1]) (by simp [hw.2.1]) tS71 (by simp) fun H6 hS => ?_
    have hS := (hS.nil 0).front
    simp only [List.nil_append, List.cons_append, List.append_nil, List.set_cons_zero, List.set_cons_succ, setMany_cons, setMany_nil, Nat.zero_add, Nat.mul_one, Nat.add_zero] at hS
    have hv1 : Sl2 H6 v _ _ es := hS.base hv
    repeat first | (with_reducible first | refine Wp.seq ?_ | refine Wp.reg ?_ | refine Wp.block ?_ | refine Wp.skip ?_ | refine Wp.ret ?_ | refine Wp.exit ?_ | refine Wp.label ?_ | refine Wp.condG ?_) | simp (disch := omega) only [↓RP, RQ, TS, TR, ↓reduceIte, Nat.reduceEqDiff, Nat.reduceLT, Nat.reduceLeDiff, Int.reduceLT, Int.reduceLE, Int.reduceEq, Int.reduceAdd, Int.reduceSub, Int.reduceNeg, Int.reduceToNat, Nat.reduceAdd, Nat.reduceMul, Nat.reduceSub, reduceCtorEq, RC, Int.cast_ofNat_Int, hn, g0, hS.ld 2 rfl, hv1.len]
    refine Wp.loopN (fun n l H' => l.length = 78 ∧ get l 1 = ptr A 0 2 ∧ get l 6 = ptr B 0 1 ∧ get l 24 = v ∧ get l 25 = I es.length ∧ ∃ (k : Nat) (ov : Value), n + k = es.length ∧ get l 26 = I k ∧ get l 7 = ov ∧
      St Try.prog H H' (⟨ov, 1, nts (ndd es k)⟩ :: ⟨ptr B 0 1, 0, [wr]⟩ :: ⟨ptr A 0 2, 0, [I N, v]⟩ :: ⟨wr, 1, (List.range N).map ws⟩ :: innerB N ws fun i => rb (ds i))) es.length ?_ ?_
    · repeat first | (with_reducible first | refine Wp.seq ?_ | refine Wp.reg ?_ | refine Wp.block ?_ | refine Wp.skip ?_ | refine Wp.ret ?_ | refine Wp.exit ?_ | refine Wp.label ?_ | refine Wp.condG ?_) | simp (disch := omega) only [↓RP, RQ, TS, TR, ↓reduceIte, Nat.reduceEqDiff, Nat.reduceLT, Nat.reduceLeDiff, Int.reduceLT, Int.reduceLE, Int.reduceEq, Int.reduceAdd, Int.reduceSub, Int.reduceNeg, Int.reduceToNat, Nat.reduceAdd, Nat.reduceMul, Nat.reduceSub, reduceCtorEq, RC, Int.cast_ofNat_Int, hn, g0]
      exact ⟨0, _, rfl, rfl, rfl, hS⟩
    clear hS hS2 hn g0 hw hv1
    rintro n l H' ⟨hn, g1, g6, g24, g25, k, ov, hk, g26, g7, hS⟩
    have hv1 : Sl2 H' v _ _ es := hS.base hv
    repeat first | (with_reducible first | refine Wp.seq ?_ | refine Wp.reg ?_ | refine Wp.block ?_ | refine Wp.skip ?_ | refine Wp.ret ?_ | refine Wp.exit ?_ | refine Wp.label ?_ | refine Wp.condG ?_) | simp (disch := omega) only [↓RP, RQ, TS, TR, ↓reduceIte, Nat.reduceEqDiff, Nat.reduceLT, Nat.reduceLeDiff, Int.reduceLT, Int.reduceLE, Int.reduceEq, Int.reduceAdd, Int.reduceSub, Int.reduceNeg, Int.reduceToNat, Nat.reduceAdd, Nat.reduceMul, Nat.reduceSub, reduceCtorEq, RC, Int.cast_ofNat_Int, hn, g1, g6, g24, g25, g26, g7]
    refine condW_split (fun h => ?_) (fun h => ?_)
    · have hkl : k < es.length := by omega
      have hmk := hval _ (getD_mem (0, 0) hkl)
      repeat first | (with_reducible first | refine Wp.seq ?_ | refine Wp.reg ?_ | refine Wp.block ?_ | refine Wp.skip ?_ | refine Wp.ret ?_ | refine Wp.exit ?_ | refine Wp.label ?_ | refine Wp.condG ?_) | simp (disch := omega) only [↓RP, RQ, TS, TR, ↓reduceIte, Nat.reduceEqDiff, Nat.reduceLT, Nat.reduceLeDiff, Int.reduceLT, Int.reduceLE, Int.reduceEq, Int.reduceAdd, Int.reduceSub, Int.reduceNeg, Int.reduceToNat, Nat.reduceAdd, Nat.reduceMul, Nat.reduceSub, reduceCtorEq, RC, Int.cast_ofNat_Int, hn, g1, g6, g24, g25, g26, g7, hv1.idx, hv1.ldA (0, 0)]
      refine hS.eNew 1 [I 0] rfl rfl rfl tS3 fun C H2 hS => ?_
      have hS := hS.front
      repeat first | (with_reducible first | refine Wp.seq ?_ | refine Wp.reg ?_ | refine Wp.block ?_ | refine Wp.skip ?_ | refine Wp.ret ?_ | refine Wp.exit ?_ | refine Wp.label ?_ | refine Wp.condG ?_) | simp (disch := omega) only [↓RP, RQ, TS, TR, ↓reduceIte, Nat.reduceEqDiff, Nat.reduceLT, Nat.reduceLeDiff, Int.reduceLT, Int.reduceLE, Int.reduceEq, Int.reduceAdd, Int.reduceSub, Int.reduceNeg, Int.reduceToNat, Nat.reduceAdd, Nat.reduceMul, Nat.reduceSub, reduceCtorEq, RC, Int.cast_ofNat_Int, hn, g1, g6, g24, g25, g26, g7]
      refine hS.eNew 2 [I 0, I 0] rfl rfl rfl tS48 fun E H3 hS => ?_
      have hS := hS.front
      repeat first | (with_reducible first | refine Wp.seq ?_ | refine Wp.reg ?_ | refine Wp.block ?_ | refine Wp.skip ?_ | refine Wp.ret ?_ | refine Wp.exit ?_ | refine Wp.label ?_ | refine Wp.condG ?_) | simp (disch := omega) only [↓RP, RQ, TS, TR, ↓reduceIte, Nat.reduceEqDiff, Nat.reduceLT, Nat.reduceLeDiff, Int.reduceLT, Int.reduceLE, Int.reduceEq, Int.reduceAdd, Int.reduceSub, Int.reduceNeg, Int.reduceToNat, Nat.reduceAdd, Nat.reduceMul, Nat.reduceSub, reduceCtorEq, RC, Int.cast_ofNat_Int, hn, g1, g6, g24, g25, g26, g7]
      refine hS.eStore 1 rfl [_] rfl rfl tS3 (by simp) fun H4 hS => ?_
      simp only [List.nil_append, List.cons_append, List.append_nil, List.set_cons_zero, List.set_cons_succ, setMany_cons, setMany_nil, Nat.zero_add, Nat.mul_one, Nat.add_zero] at hS
      repeat first | (with_reducible first | refine Wp.seq ?_ | refine Wp.reg ?_ | refine Wp.block ?_ | refine Wp.skip ?_ | refine Wp.ret ?_ | refine Wp.exit ?_ | refine Wp.label ?_ | refine Wp.condG ?_) | simp (disch := omega) only [↓RP, RQ, TS, TR, ↓reduceIte, Nat.reduceEqDiff, Nat.reduceLT, Nat.reduceLeDiff, Int.reduceLT, Int.reduceLE, Int.reduceEq, Int.reduceAdd, Int.reduceSub, Int.reduceNeg, Int.reduceToNat, Nat.reduceAdd, Nat.reduceMul, Nat.reduceSub, reduceCtorEq, RC, Int.cast_ofNat_Int, hn, g1, g6, g24, g25, g26, g7]
      refine hS.eStore 0 rfl [_, _] rfl rfl tS48 (by simp) fun H5 hS => ?_
      simp only [List.nil_append, List.cons_append, List.append_nil, List.set_cons_zero, List.set_cons_succ, setMany_cons, setMany_nil, Nat.zero_add, Nat.mul_one, Nat.add_zero] at hS
      repeat first | (with_reducible first | refine Wp.seq ?_ | refine Wp.reg ?_ | refine Wp.block ?_ | refine Wp.skip ?_ | refine Wp.ret ?_ | refine Wp.exit ?_ | refine Wp.label ?_ | refine Wp.condG ?_) | simp (disch := omega) only [↓RP, RQ, TS, TR, ↓reduceIte, Nat.reduceEqDiff, Nat.reduceLT, Nat.reduceLeDiff, Int.reduceLT, Int.reduceLE, Int.reduceEq, Int.reduceAdd, Int.reduceSub, Int.reduceNeg, Int.reduceToNat, Nat.reduceAdd, Nat.reduceMul, Nat.reduceSub, reduceCtorEq, RC, Int.cast_ofNat_Int, hn, g1, g6, g24, g25, g26, g7]
      refine hS.eNew 1 [.bool false] rfl rfl rfl tS4 fun D H6 hS => ?_
      have hS := hS.front
      repeat first | (with_reducible first | refine Wp.seq ?_ | refine Wp.reg ?_ | refine Wp.block ?_ | refine Wp.skip ?_ | refine Wp.ret ?_ | refine Wp.exit ?_ | refine Wp.label ?_ | refine Wp.condG ?_) | simp (disch := omega) only [↓RP, RQ, TS, TR, ↓reduceIte, Nat.reduceEqDiff, Nat.reduceLT, Nat.reduceLeDiff, Int.reduceLT, Int.reduceLE, Int.reduceEq, Int.reduceAdd, Int.reduceSub, Int.reduceNeg, Int.reduceToNat, Nat.reduceAdd, Nat.reduceMul, Nat.reduceSub, reduceCtorEq, RC, Int.cast_ofNat_Int, hn, g1, g6, g24, g25, g26, g7]
      refine hS.eStore 0 rfl [_] rfl rfl tS4 (by simp) fun H7 hS => ?_
      simp only [List.nil_append, List.cons_append, List.append_nil, List.set_cons_zero, List.set_cons_succ, setMany_cons, setMany_nil, Nat.zero_add, Nat.mul_one, Nat.add_zero] at hS
      repeat first | (with_reducible first | refine Wp.seq ?_ | refine Wp.reg ?_ | refine Wp.block ?_ | refine Wp.skip ?_ | refine Wp.ret ?_ | refine Wp.exit ?_ | refine Wp.label ?_ | refine Wp.condG ?_) | simp (disch := omega) only [↓RP, RQ, TS, TR, ↓reduceIte, Nat.reduceEqDiff, Nat.reduceLT, Nat.reduceLeDiff, Int.reduceLT, Int.reduceLE, Int.reduceEq, Int.reduceAdd, Int.reduceSub, Int.reduceNeg, Int.reduceToNat, Nat.reduceAdd, Nat.reduceMul, Nat.reduceSub, reduceCtorEq, RC, Int.cast_ofNat_Int, hn, g1, g6, g24, g25, g26, g7, hS.ldA 5 rfl, hS.ld 1 rfl]
      refine callFW_of (out1_ok N (es.getD k (0, 0)).1 v hv.one) ?_
      rintro r H8 ⟨Ag, An, rfl, hS2⟩
      have hS := (hS.trans hS2).perm List.perm_append_comm
      simp only [List.nil_append, List.cons_append, List.append_nil, List.set_cons_zero, List.set_cons_succ, setMany_cons, setMany_nil, Nat.zero_add, Nat.mul_one, Nat.add_zero] at hS
      repeat first | (with_reducible first | refine Wp.seq ?_ | refine Wp.reg ?_ | refine Wp.block ?_ | refine Wp.skip ?_ | refine Wp.ret ?_ | refine Wp.exit ?_ | refine Wp.label ?_ | refine Wp.condG ?_) | simp (disch := omega) only [↓RP, RQ, TS, TR, ↓reduceIte, Nat.reduceEqDiff, Nat.reduceLT, Nat.reduceLeDiff, Int.reduceLT, Int.reduceLE, Int.reduceEq, Int.reduceAdd, Int.reduceSub, Int.reduceNeg, Int.reduceToNat, Nat.reduceAdd, Nat.reduceMul, Nat.reduceSub, reduceCtorEq, RC, Int.cast_ofNat_Int, hn, g1, g6, g24, g25, g26, g7]
      refine Wp.slots fun l' hl' => ?_
      have hn' : l'.length = 78 := by rw [hl']; simp (disch := omega) only [↓RP, RQ, TS, TR, ↓reduceIte, Nat.reduceEqDiff, Nat.reduceLT, Nat.reduceLeDiff, Int.reduceLT, Int.reduceLE, Int.reduceEq, Int.reduceAdd, Int.reduceSub, Int.reduceNeg, Int.reduceToNat, Nat.reduceAdd, Nat.reduceMul, Nat.reduceSub, reduceCtorEq, RC, Int.cast_ofNat_Int, hn]
      have g1' : get l' 1 = ptr A 0 2 := by rw [hl']; simp (disch := omega) only [↓RP, RQ, TS, TR, ↓reduceIte, Nat.reduceEqDiff, Nat.reduceLT, Nat.reduceLeDiff, Int.reduceLT, Int.reduceLE, Int.reduceEq, Int.reduceAdd, Int.reduceSub, Int.reduceNeg, Int.reduceToNat, Nat.reduceAdd, Nat.reduceMul, Nat.reduceSub, reduceCtorEq, RC, Int.cast_ofNat_Int, hn, g1]
      have g6' : get l' 6 = ptr B 0 1 := by rw [hl']; simp (disch := omega) only [↓RP, RQ, TS, TR, ↓reduceIte, Nat.reduceEqDiff, Nat.reduceLT, Nat.reduceLeDiff, Int.reduceLT, Int.reduceLE, Int.reduceEq, Int.reduceAdd, Int.reduceSub, Int.reduceNeg, Int.reduceToNat, Nat.reduceAdd, Nat.reduceMul, Nat.reduceSub, reduceCtorEq, RC, Int.cast_ofNat_Int, hn, g6]
      have g7' : get l' 7 = ov := by rw [hl']; simp (disch := omega) only [↓RP, RQ, TS, TR, ↓reduceIte, Nat.reduceEqDiff, Nat.reduceLT, Nat.reduceLeDiff, Int.reduceLT, Int.reduceLE, Int.reduceEq, Int.reduceAdd, Int.reduceSub, Int.reduceNeg, Int.reduceToNat, Nat.reduceAdd, Nat.reduceMul, Nat.reduceSub, reduceCtorEq, RC, Int.cast_ofNat_Int, hn, g7]
      have g8' : get l' 8 = ptr C 0 1 := by rw [hl']; simp (disch := omega) only [↓RP, RQ, TS, TR, ↓reduceIte, Nat.reduceEqDiff, Nat.reduceLT, Nat.reduceLeDiff, Int.reduceLT, Int.reduceLE, Int.reduceEq, Int.reduceAdd, Int.reduceSub, Int.reduceNeg, Int.reduceToNat, Nat.reduceAdd, Nat.reduceMul, Nat.reduceSub, reduceCtorEq, RC, Int.cast_ofNat_Int, hn]
      have g9' : get l' 9 = ptr E 0 2 := by rw [hl']; simp (disch := omega) only [↓RP, RQ, TS, TR, ↓reduceIte, Nat.reduceEqDiff, Nat.reduceLT, Nat.reduceLeDiff, Int.reduceLT, Int.reduceLE, Int.reduceEq, Int.reduceAdd, Int.reduceSub, Int.reduceNeg, Int.reduceToNat, Nat.reduceAdd, Nat.reduceMul, Nat.reduceSub, reduceCtorEq, RC, Int.cast_ofNat_Int, hn]
      have g10' : get l' 10 = ptr D 0 1 := by rw [hl']; simp (disch := omega) only [↓RP, RQ, TS, TR, ↓reduceIte, Nat.reduceEqDiff, Nat.reduceLT, Nat.reduceLeDiff, Int.reduceLT, Int.reduceLE, Int.reduceEq, Int.reduceAdd, Int.reduceSub, Int.reduceNeg, Int.reduceToNat, Nat.reduceAdd, Nat.reduceMul, Nat.reduceSub, reduceCtorEq, RC, Int.cast_ofNat_Int, hn]
      have g24' : get l' 24 = v := by rw [hl']; simp (disch := omega) only [↓RP, RQ, TS, TR, ↓reduceIte, Nat.reduceEqDiff, Nat.reduceLT, Nat.reduceLeDiff, Int.reduceLT, Int.reduceLE, Int.reduceEq, Int.reduceAdd, Int.reduceSub, Int.reduceNeg, Int.reduceToNat, Nat.reduceAdd, Nat.reduceMul, Nat.reduceSub, reduceCtorEq, RC, Int.cast_ofNat_Int, hn, g24]
      have g25' : get l' 25 = I es.length := by rw [hl']; simp (disch := omega) only [↓RP, RQ, TS, TR, ↓reduceIte, Nat.reduceEqDiff, Nat.reduceLT, Nat.reduceLeDiff, Int.reduceLT, Int.reduceLE, Int.reduceEq, Int.reduceAdd, Int.reduceSub, Int.reduceNeg, Int.reduceToNat, Nat.reduceAdd, Nat.reduceMul, Nat.reduceSub, reduceCtorEq, RC, Int.cast_ofNat_Int, hn, g25]
      have g26' : get l' 26 = I k := by rw [hl']; simp (disch := omega) only [↓RP, RQ, TS, TR, ↓reduceIte, Nat.reduceEqDiff, Nat.reduceLT, Nat.reduceLeDiff, Int.reduceLT, Int.reduceLE, Int.reduceEq, Int.reduceAdd, Int.reduceSub, Int.reduceNeg, Int.reduceToNat, Nat.reduceAdd, Nat.reduceMul, Nat.reduceSub, reduceCtorEq, RC, Int.cast_ofNat_Int, hn, g26]
      have g34' : get l' 34 = .func (.func 50) #[] [ptr Ag 0 2, ptr An 0 1].toArray := by rw [hl']; simp (disch := omega) only [↓RP, RQ, TS, TR, ↓reduceIte, Nat.reduceEqDiff, Nat.reduceLT, Nat.reduceLeDiff, Int.reduceLT, Int.reduceLE, Int.reduceEq, Int.reduceAdd, Int.reduceSub, Int.reduceNeg, Int.reduceToNat, Nat.reduceAdd, Nat.reduceMul, Nat.reduceSub, reduceCtorEq, RC, Int.cast_ofNat_Int, hn]
      clear hl' hn g1 g6 g7 g24 g25 g26 hS2
      refine Wp.rangeR g34' fun r hst hpd htm hps has hbd => ?_
      have hreq : ({ r with state := .ready, pending := none } : Loop) = r := by
        cases r
        simp only at hst hpd
        subst hst hpd
        rfl
      have hLp := Lp.enter hS r
      generalize H8.cons (.loop r) = Hc at hLp ⊢
      generalize H8.length = L at hLp ⊢
      clear hS
      rw [show [Value.bool false] = [Value.bool (impB es k 0)] from by rw [impB_zero]] at hLp
      refine (out_ok N (es.getD k (0, 0)).1 v es he Ag An (.func (.yield L) #[] #[])
        (fun j H1 => Lp Try.prog H L r H1 (⟨ptr Ag 0 2, 0, [I N, v]⟩ :: ⟨ptr An 0 1, 0, [I (es.getD k (0, 0)).1]⟩ :: ⟨ptr D 0 1, 0, [.bool (impB es k j)]⟩ :: ⟨ptr E 0 2, 0, [I (es.getD k (0, 0)).1, I (es.getD k (0, 0)).2]⟩ :: ⟨ptr C 0 1, 0, [I k]⟩ :: ⟨ov, 1, nts (ndd es k)⟩ :: ⟨ptr B 0 1, 0, [wr]⟩ :: ⟨ptr A 0 2, 0, [I N, v]⟩ :: ⟨wr, 1, (List.range N).map ws⟩ :: innerB N ws fun i => rb (ds i)))
        (fun _ => False) hLp ?_ ?_ ?_ ?_).mono ?_
      · rintro j H1 h1
        exact ⟨h1.st.var 0 rfl, h1.st.var 1 rfl, h1.st.base hv⟩
      · rintro j H1 H2 h2 h3
        simpa using h2.ext h3
      · rintro j H1 hj hne h2
        rw [impB_skip es k j hne]
        exact h2
      · rintro j H1 hj hja h1
        have hme := getD_mem (0, 0) hj
        have hm := hval _ hme
        have hdl := (hds _ hm.2).len
        refine callW_yield h1.get (by rw [hps]; rfl) hst ?_
        refine Wp.of_eq (l := put l' (some 35) (I j)) has (by rw [hps, htm]; exact (setL_eq ..).symm) ?_
        repeat first | (with_reducible first | refine Wp.seq ?_ | refine Wp.reg ?_ | refine Wp.block ?_ | refine Wp.skip ?_ | refine Wp.ret ?_ | refine Wp.exit ?_ | refine Wp.label ?_ | refine Wp.condG ?_) | simp (disch := omega) only [↓RP, RQ, TS, TR, ↓reduceIte, Nat.reduceEqDiff, Nat.reduceLT, Nat.reduceLeDiff, Int.reduceLT, Int.reduceLE, Int.reduceEq, Int.reduceAdd, Int.reduceSub, Int.reduceNeg, Int.reduceToNat, Nat.reduceAdd, Nat.reduceMul, Nat.reduceSub, reduceCtorEq, RC, Int.cast_ofNat_Int, hn']
        refine ⟨r, h1.get, hst, ?_⟩
        have hB := h1.set (fun h => h) { r with state := .busy }
        generalize hset H1 L (.loop { r with state := .busy }) = Hb at hB ⊢
        refine Wp.of_eq hbd rfl ?_
        have hv1 : Sl2 Hb v _ _ es := hB.st.base hv
        obtain ⟨B0, hS, hback⟩ := hB.cut
        have ho : Sl1 Hb wr ws (List.range N) := hS.rd 8 rfl
        have hrow : Sl1 Hb (ws (es.getD j (0, 0)).2) (fun b : Bool => .bool b) (rb (ds (es.getD j (0, 0)).2)) := hS.rd ((es.getD j (0, 0)).2 + 9) (innerB_get N ws _ _ hm.2)
        have hrbl := rb_length (ds (es.getD j (0, 0)).2)
        have hstep := impB_step hval hds (by omega) hj hja
        have hfin : ∀ H2, St Try.prog B0 H2 (⟨ptr Ag 0 2, 0, [I N, v]⟩ :: ⟨ptr An 0 1, 0, [I (es.getD k (0, 0)).1]⟩ :: ⟨ptr D 0 1, 0, [.bool (impB es k (j + 1))]⟩ :: ⟨ptr E 0 2, 0, [I (es.getD k (0, 0)).1, I (es.getD k (0, 0)).2]⟩ :: ⟨ptr C 0 1, 0, [I k]⟩ :: ⟨ov, 1, nts (ndd es k)⟩ :: ⟨ptr B 0 1, 0, [wr]⟩ :: ⟨ptr A 0 2, 0, [I N, v]⟩ :: ⟨wr, 1, (List.range N).map ws⟩ :: innerB N ws fun i => rb (ds i)) → Lp Try.prog H L { r with state := .busy } H2 (⟨ptr Ag 0 2, 0, [I N, v]⟩ :: ⟨ptr An 0 1, 0, [I (es.getD k (0, 0)).1]⟩ :: ⟨ptr D 0 1, 0, [.bool (impB es k (j + 1))]⟩ :: ⟨ptr E 0 2, 0, [I (es.getD k (0, 0)).1, I (es.getD k (0, 0)).2]⟩ :: ⟨ptr C 0 1, 0, [I k]⟩ :: ⟨ov, 1, nts (ndd es k)⟩ :: ⟨ptr B 0 1, 0, [wr]⟩ :: ⟨ptr A 0 2, 0, [I N, v]⟩ :: ⟨wr, 1, (List.range N).map ws⟩ :: innerB N ws fun i => rb (ds i)) := fun H2 h2 => hback _ _ h2
        have hend : ∀ H2, Lp Try.prog H L { r with state := .busy } H2 (⟨ptr Ag 0 2, 0, [I N, v]⟩ :: ⟨ptr An 0 1, 0, [I (es.getD k (0, 0)).1]⟩ :: ⟨ptr D 0 1, 0, [.bool (impB es k (j + 1))]⟩ :: ⟨ptr E 0 2, 0, [I (es.getD k (0, 0)).1, I (es.getD k (0, 0)).2]⟩ :: ⟨ptr C 0 1, 0, [I k]⟩ :: ⟨ov, 1, nts (ndd es k)⟩ :: ⟨ptr B 0 1, 0, [wr]⟩ :: ⟨ptr A 0 2, 0, [I N, v]⟩ :: ⟨wr, 1, (List.range N).map ws⟩ :: innerB N ws fun i => rb (ds i)) → Lp Try.prog H L r (hset H2 L (.loop { { r with state := .busy } with state := .ready, pending := none })) (⟨ptr Ag 0 2, 0, [I N, v]⟩ :: ⟨ptr An 0 1, 0, [I (es.getD k (0, 0)).1]⟩ :: ⟨ptr D 0 1, 0, [.bool (impB es k (j + 1))]⟩ :: ⟨ptr E 0 2, 0, [I (es.getD k (0, 0)).1, I (es.getD k (0, 0)).2]⟩ :: ⟨ptr C 0 1, 0, [I k]⟩ :: ⟨ov, 1, nts (ndd es k)⟩ :: ⟨ptr B 0 1, 0, [wr]⟩ :: ⟨ptr A 0 2, 0, [I N, v]⟩ :: ⟨wr, 1, (List.range N).map ws⟩ :: innerB N ws fun i => rb (ds i)) := fun H2 h2 => by
          have := h2.set (fun h => h) r
          rw [← hreq] at this
          exact hreq ▸ this
        generalize impB es k (j + 1) = b1 at hstep hfin hend
        generalize impB es k j = b0 at hstep hS
        by_cases c : (es.getD j (0, 0)).2 = (es.getD k (0, 0)).2
        · rw [if_pos c] at hstep
          have d1 : decide (¬ ((es.getD j (0, 0)).2 : Int) = ((es.getD k (0, 0)).2 : Int)) = false := decide_eq_false (by omega)
          have d2 : decide (((es.getD j (0, 0)).2 : Int) = ((es.getD k (0, 0)).2 : Int)) = true := decide_eq_true (by omega)
          cases b0 with
          | true =>
            obtain rfl : b1 = true := by simpa using hstep
            repeat first | (with_reducible first | refine Wp.seq ?_ | refine Wp.reg ?_ | refine Wp.block ?_ | refine Wp.skip ?_ | refine Wp.ret ?_ | refine Wp.exit ?_ | refine Wp.label ?_ | refine Wp.condG ?_) | with_reducible refine Wp.drw hmix (by kernel_rfl) ?_ | simp (disch := omega) only [↓RP, RQ, TS, TR, ↓reduceIte, Nat.reduceEqDiff, Nat.reduceLT, Nat.reduceLeDiff, Int.reduceLT, Int.reduceLE, Int.reduceEq, Int.reduceAdd, Int.reduceSub, Int.reduceNeg, Int.reduceToNat, Nat.reduceAdd, Nat.reduceMul, Nat.reduceSub, reduceCtorEq, RC, Int.cast_ofNat_Int, hn', g1', g6', g8', g9', g10', hv1.idx, hv1.fld, hv1.ld1 (0, 0), ho.idx, ho.ld 0, getD_range, hrow.idx, hrow.ld false, rb_at, hS.ld 2 rfl, hS.ld 3 rfl, hS.ld 4 rfl, hS.ld 6 rfl, hS.ld 7 rfl, d1, d2]
            refine hS.eStore 2 rfl [_] rfl rfl tS4 (by simp) fun H3 hS => ?_
            simp only [List.nil_append, List.cons_append, List.append_nil, List.set_cons_zero, List.set_cons_succ, setMany_cons, setMany_nil, Nat.zero_add, Nat.mul_one, Nat.add_zero] at hS
            repeat first | (with_reducible first | refine Wp.seq ?_ | refine Wp.reg ?_ | refine Wp.block ?_ | refine Wp.skip ?_ | refine Wp.ret ?_ | refine Wp.exit ?_ | refine Wp.label ?_ | refine Wp.condG ?_) | simp (disch := omega) only [↓RP, RQ, TS, TR, ↓reduceIte, Nat.reduceEqDiff, Nat.reduceLT, Nat.reduceLeDiff, Int.reduceLT, Int.reduceLE, Int.reduceEq, Int.reduceAdd, Int.reduceSub, Int.reduceNeg, Int.reduceToNat, Nat.reduceAdd, Nat.reduceMul, Nat.reduceSub, reduceCtorEq, RC, Int.cast_ofNat_Int, hn', g1', g6', g8', g9', g10']
            have hB2 := hfin _ hS
            exact ⟨_, hB2.get, true, rfl, (fun _ => hend _ hB2), (fun h => by cases h)⟩
          | false =>
            have d3 : decide ((j : Int) < (k : Int)) = b1 := by rw [hstep, Bool.false_or]; congr 1; simp
            repeat first | (with_reducible first | refine Wp.seq ?_ | refine Wp.reg ?_ | refine Wp.block ?_ | refine Wp.skip ?_ | refine Wp.ret ?_ | refine Wp.exit ?_ | refine Wp.label ?_ | refine Wp.condG ?_) | with_reducible refine Wp.drw hmix (by kernel_rfl) ?_ | simp (disch := omega) only [↓RP, RQ, TS, TR, ↓reduceIte, Nat.reduceEqDiff, Nat.reduceLT, Nat.reduceLeDiff, Int.reduceLT, Int.reduceLE, Int.reduceEq, Int.reduceAdd, Int.reduceSub, Int.reduceNeg, Int.reduceToNat, Nat.reduceAdd, Nat.reduceMul, Nat.reduceSub, reduceCtorEq, RC, Int.cast_ofNat_Int, hn', g1', g6', g8', g9', g10', hv1.idx, hv1.fld, hv1.ld1 (0, 0), ho.idx, ho.ld 0, getD_range, hrow.idx, hrow.ld false, rb_at, hS.ld 2 rfl, hS.ld 3 rfl, hS.ld 4 rfl, hS.ld 6 rfl, hS.ld 7 rfl, d1, d2, d3]
            refine hS.eStore 2 rfl [_] rfl rfl tS4 (by simp) fun H3 hS => ?_
            simp only [List.nil_append, List.cons_append, List.append_nil, List.set_cons_zero, List.set_cons_succ, setMany_cons, setMany_nil, Nat.zero_add, Nat.mul_one, Nat.add_zero] at hS
            repeat first | (with_reducible first | refine Wp.seq ?_ | refine Wp.reg ?_ | refine Wp.block ?_ | refine Wp.skip ?_ | refine Wp.ret ?_ | refine Wp.exit ?_ | refine Wp.label ?_ | refine Wp.condG ?_) | simp (disch := omega) only [↓RP, RQ, TS, TR, ↓reduceIte, Nat.reduceEqDiff, Nat.reduceLT, Nat.reduceLeDiff, Int.reduceLT, Int.reduceLE, Int.reduceEq, Int.reduceAdd, Int.reduceSub, Int.reduceNeg, Int.reduceToNat, Nat.reduceAdd, Nat.reduceMul, Nat.reduceSub, reduceCtorEq, RC, Int.cast_ofNat_Int, hn', g1', g6', g8', g9', g10']
            have hB2 := hfin _ hS
            exact ⟨_, hB2.get, true, rfl, (fun _ => hend _ hB2), (fun h => by cases h)⟩
        · rw [if_neg c] at hstep
          have d1 : decide (¬ ((es.getD j (0, 0)).2 : Int) = ((es.getD k (0, 0)).2 : Int)) = true := decide_eq_true (by omega)
          have d2 : decide (((es.getD j (0, 0)).2 : Int) = ((es.getD k (0, 0)).2 : Int)) = false := decide_eq_false (by omega)
          cases b0 with
          | true =>
            obtain rfl : b1 = true := by simpa using hstep
            repeat first | (with_reducible first | refine Wp.seq ?_ | refine Wp.reg ?_ | refine Wp.block ?_ | refine Wp.skip ?_ | refine Wp.ret ?_ | refine Wp.exit ?_ | refine Wp.label ?_ | refine Wp.condG ?_) | with_reducible refine Wp.drw hmix (by kernel_rfl) ?_ | simp (disch := omega) only [↓RP, RQ, TS, TR, ↓reduceIte, Nat.reduceEqDiff, Nat.reduceLT, Nat.reduceLeDiff, Int.reduceLT, Int.reduceLE, Int.reduceEq, Int.reduceAdd, Int.reduceSub, Int.reduceNeg, Int.reduceToNat, Nat.reduceAdd, Nat.reduceMul, Nat.reduceSub, reduceCtorEq, RC, Int.cast_ofNat_Int, hn', g1', g6', g8', g9', g10', hv1.idx, hv1.fld, hv1.ld1 (0, 0), ho.idx, ho.ld 0, getD_range, hrow.idx, hrow.ld false, rb_at, hS.ld 2 rfl, hS.ld 3 rfl, hS.ld 4 rfl, hS.ld 6 rfl, hS.ld 7 rfl, d1, d2]
            refine hS.eStore 2 rfl [_] rfl rfl tS4 (by simp) fun H3 hS => ?_
            simp only [List.nil_append, List.cons_append, List.append_nil, List.set_cons_zero, List.set_cons_succ, setMany_cons, setMany_nil, Nat.zero_add, Nat.mul_one, Nat.add_zero] at hS
            repeat first | (with_reducible first | refine Wp.seq ?_ | refine Wp.reg ?_ | refine Wp.block ?_ | refine Wp.skip ?_ | refine Wp.ret ?_ | refine Wp.exit ?_ | refine Wp.label ?_ | refine Wp.condG ?_) | simp (disch := omega) only [↓RP, RQ, TS, TR, ↓reduceIte, Nat.reduceEqDiff, Nat.reduceLT, Nat.reduceLeDiff, Int.reduceLT, Int.reduceLE, Int.reduceEq, Int.reduceAdd, Int.reduceSub, Int.reduceNeg, Int.reduceToNat, Nat.reduceAdd, Nat.reduceMul, Nat.reduceSub, reduceCtorEq, RC, Int.cast_ofNat_Int, hn', g1', g6', g8', g9', g10']
            have hB2 := hfin _ hS
            exact ⟨_, hB2.get, true, rfl, (fun _ => hend _ hB2), (fun h => by cases h)⟩
          | false =>
            have d3 : decide (0 ≤ (ds (es.getD j (0, 0)).2).getD (es.getD k (0, 0)).2 0) = b1 := by rw [hstep, Bool.false_or]
            clear hstep
            cases b1 with
            | true =>
              repeat first | (with_reducible first | refine Wp.seq ?_ | refine Wp.reg ?_ | refine Wp.block ?_ | refine Wp.skip ?_ | refine Wp.ret ?_ | refine Wp.exit ?_ | refine Wp.label ?_ | refine Wp.condG ?_) | with_reducible refine Wp.drw hmix (by kernel_rfl) ?_ | simp (disch := omega) only [↓RP, RQ, TS, TR, ↓reduceIte, Nat.reduceEqDiff, Nat.reduceLT, Nat.reduceLeDiff, Int.reduceLT, Int.reduceLE, Int.reduceEq, Int.reduceAdd, Int.reduceSub, Int.reduceNeg, Int.reduceToNat, Nat.reduceAdd, Nat.reduceMul, Nat.reduceSub, reduceCtorEq, RC, Int.cast_ofNat_Int, hn', g1', g6', g8', g9', g10', hv1.idx, hv1.fld, hv1.ld1 (0, 0), ho.idx, ho.ld 0, getD_range, hrow.idx, hrow.ld false, rb_at, hS.ld 2 rfl, hS.ld 3 rfl, hS.ld 4 rfl, hS.ld 6 rfl, hS.ld 7 rfl, d1, d2, d3]
              refine hS.eStore 2 rfl [_] rfl rfl tS4 (by simp) fun H3 hS => ?_
              simp only [List.nil_append, List.cons_append, List.append_nil, List.set_cons_zero, List.set_cons_succ, setMany_cons, setMany_nil, Nat.zero_add, Nat.mul_one, Nat.add_zero] at hS
              repeat first | (with_reducible first | refine Wp.seq ?_ | refine Wp.reg ?_ | refine Wp.block ?_ | refine Wp.skip ?_ | refine Wp.ret ?_ | refine Wp.exit ?_ | refine Wp.label ?_ | refine Wp.condG ?_) | simp (disch := omega) only [↓RP, RQ, TS, TR, ↓reduceIte, Nat.reduceEqDiff, Nat.reduceLT, Nat.reduceLeDiff, Int.reduceLT, Int.reduceLE, Int.reduceEq, Int.reduceAdd, Int.reduceSub, Int.reduceNeg, Int.reduceToNat, Nat.reduceAdd, Nat.reduceMul, Nat.reduceSub, reduceCtorEq, RC, Int.cast_ofNat_Int, hn', g1', g6', g8', g9', g10']
              have hB2 := hfin _ hS
              exact ⟨_, hB2.get, true, rfl, (fun _ => hend _ hB2), (fun h => by cases h)⟩
            | false =>
              repeat first | (with_reducible first | refine Wp.seq ?_ | refine Wp.reg ?_ | refine Wp.block ?_ | refine Wp.skip ?_ | refine Wp.ret ?_ | refine Wp.exit ?_ | refine Wp.label ?_ | refine Wp.condG ?_) | with_reducible refine Wp.drw hmix (by kernel_rfl) ?_ | simp (disch := omega) only [↓RP, RQ, TS, TR, ↓reduceIte, Nat.reduceEqDiff, Nat.reduceLT, Nat.reduceLeDiff, Int.reduceLT, Int.reduceLE, Int.reduceEq, Int.reduceAdd, Int.reduceSub, Int.reduceNeg, Int.reduceToNat, Nat.reduceAdd, Nat.reduceMul, Nat.reduceSub, reduceCtorEq, RC, Int.cast_ofNat_Int, hn', g1', g6', g8', g9', g10', hv1.idx, hv1.fld, hv1.ld1 (0, 0), ho.idx, ho.ld 0, getD_range, hrow.idx, hrow.ld false, rb_at, hS.ld 2 rfl, hS.ld 3 rfl, hS.ld 4 rfl, hS.ld 6 rfl, hS.ld 7 rfl, d1, d2, d3]
              refine hS.eStore 2 rfl [_] rfl rfl tS4 (by simp) fun H3 hS => ?_
              simp only [List.nil_append, List.cons_append, List.append_nil, List.set_cons_zero, List.set_cons_succ, setMany_cons, setMany_nil, Nat.zero_add, Nat.mul_one, Nat.add_zero] at hS
              repeat first | (with_reducible first | refine Wp.seq ?_ | refine Wp.reg ?_ | refine Wp.block ?_ | refine Wp.skip ?_ | refine Wp.ret ?_ | refine Wp.exit ?_ | refine Wp.label ?_ | refine Wp.condG ?_) | simp (disch := omega) only [↓RP, RQ, TS, TR, ↓reduceIte, Nat.reduceEqDiff, Nat.reduceLT, Nat.reduceLeDiff, Int.reduceLT, Int.reduceLE, Int.reduceEq, Int.reduceAdd, Int.reduceSub, Int.reduceNeg, Int.reduceToNat, Nat.reduceAdd, Nat.reduceMul, Nat.reduceSub, reduceCtorEq, RC, Int.cast_ofNat_Int, hn', g1', g6', g8', g9', g10']
              have hB2 := hfin _ hS
              exact ⟨_, hB2.get, true, rfl, (fun _ => hend _ hB2), (fun h => by cases h)⟩
      · rintro _ H7 (h1 | hf)
        · refine ⟨_, h1.get, (by rw [hst]; intro h; cases h), (fun _ => ?_), (fun c hc => by rw [hpd] at hc; cases hc)⟩
          have hB := h1.set (fun h => h) { r with state := .exhausted }
          have hS := hB.st
          generalize hset H7 L (.loop { r with state := .exhausted }) = H8 at hS ⊢
          have hsucc := ndd_succ es k (impB es k es.length) (impB_iff es k es.length)
          have hle := ndd_le es k
          generalize impB es k es.length = b1 at hsucc hS
          cases b1 with
          | true =>
            repeat first | (with_reducible first | refine Wp.seq ?_ | refine Wp.reg ?_ | refine Wp.block ?_ | refine Wp.skip ?_ | refine Wp.ret ?_ | refine Wp.exit ?_ | refine Wp.label ?_ | refine Wp.condG ?_) | simp (disch := omega) only [↓RP, RQ, TS, TR, ↓reduceIte, Nat.reduceEqDiff, Nat.reduceLT, Nat.reduceLeDiff, Int.reduceLT, Int.reduceLE, Int.reduceEq, Int.reduceAdd, Int.reduceSub, Int.reduceNeg, Int.reduceToNat, Nat.reduceAdd, Nat.reduceMul, Nat.reduceSub, reduceCtorEq, RC, Int.cast_ofNat_Int, hn', g1', g6', g7', g8', g9', g10', g24', g25', g26', hS.ld 2 rfl, wrap_fit]
            refine ⟨n - 1, by omega, k + 1, ov, by omega, rfl, rfl, ?_⟩
            rw [hsucc, if_pos rfl, List.append_nil]
            exact hS.sub (.cons _ (.cons _ (.cons _ (.cons _ (.cons _ (.refl _))))))
          | false =>
            repeat first | (with_reducible first | refine Wp.seq ?_ | refine Wp.reg ?_ | refine Wp.block ?_ | refine Wp.skip ?_ | refine Wp.ret ?_ | refine Wp.exit ?_ | refine Wp.label ?_ | refine Wp.condG ?_) | simp (disch := omega) only [↓RP, RQ, TS, TR, ↓reduceIte, Nat.reduceEqDiff, Nat.reduceLT, Nat.reduceLeDiff, Int.reduceLT, Int.reduceLE, Int.reduceEq, Int.reduceAdd, Int.reduceSub, Int.reduceNeg, Int.reduceToNat, Nat.reduceAdd, Nat.reduceMul, Nat.reduceSub, reduceCtorEq, RC, Int.cast_ofNat_Int, hn', g1', g6', g7', g8', g9', g10', g24', g25', g26', hS.ld 2 rfl, hS.ld 4 rfl]
            refine hS.eSlice [I k] tP29 tF29 rfl rfl (by simp [Value.cells]) rfl rfl (by decide) (by decide) fun y H4 hS => ?_
            have hS := hS.front
            repeat first | (with_reducible first | refine Wp.seq ?_ | refine Wp.reg ?_ | refine Wp.block ?_ | refine Wp.skip ?_ | refine Wp.ret ?_ | refine Wp.exit ?_ | refine Wp.label ?_ | refine Wp.condG ?_) | simp (disch := omega) only [↓RP, RQ, TS, TR, ↓reduceIte, Nat.reduceEqDiff, Nat.reduceLT, Nat.reduceLeDiff, Int.reduceLT, Int.reduceLE, Int.reduceEq, Int.reduceAdd, Int.reduceSub, Int.reduceNeg, Int.reduceToNat, Nat.reduceAdd, Nat.reduceMul, Nat.reduceSub, reduceCtorEq, RC, Int.cast_ofNat_Int, hn', g1', g6', g7', g8', g9', g10', g24', g25', g26']
            refine hS.eAppend 6 rfl (hS.rd 0 rfl) tP29 (by simp only [nts, List.length_map, List.length_cons, List.length_nil]; omega) fun ov' H5 hS => ?_
            simp only [List.nil_append, List.cons_append, List.append_nil, List.set_cons_zero, List.set_cons_succ, setMany_cons, setMany_nil, Nat.zero_add, Nat.mul_one, Nat.add_zero] at hS
            repeat first | (with_reducible first | refine Wp.seq ?_ | refine Wp.reg ?_ | refine Wp.block ?_ | refine Wp.skip ?_ | refine Wp.ret ?_ | refine Wp.exit ?_ | refine Wp.label ?_ | refine Wp.condG ?_) | simp (disch := omega) only [↓RP, RQ, TS, TR, ↓reduceIte, Nat.reduceEqDiff, Nat.reduceLT, Nat.reduceLeDiff, Int.reduceLT, Int.reduceLE, Int.reduceEq, Int.reduceAdd, Int.reduceSub, Int.reduceNeg, Int.reduceToNat, Nat.reduceAdd, Nat.reduceMul, Nat.reduceSub, reduceCtorEq, RC, Int.cast_ofNat_Int, hn', g1', g6', g7', g8', g9', g10', g24', g25', g26', wrap_fit]
            refine ⟨n - 1, by omega, k + 1, ov', by omega, rfl, rfl, ?_⟩
            rw [hsucc, if_neg (by decide), show nts (ndd es k ++ [k]) = nts (ndd es k) ++ [I k] from by simp [nts]]
            exact hS.sub (.cons _ (.cons _ (.cons _ (.cons _ (.cons _ (.cons _ (.refl _)))))))
        · exact hf.elim
    · have hke : k = es.length := by omega
      subst hke
      have ho := hS.rd 0 rfl
      repeat first | (with_reducible first | refine Wp.seq ?_ | refine Wp.reg ?_ | refine Wp.block ?_ | refine Wp.skip ?_ | refine Wp.ret ?_ | refine Wp.exit ?_ | refine Wp.label ?_ | refine Wp.condG ?_) | simp (disch := omega) only [↓RP, RQ, TS, TR, ↓reduceIte, Nat.reduceEqDiff, Nat.reduceLT, Nat.reduceLeDiff, Int.reduceLT, Int.reduceLE, Int.reduceEq, Int.reduceAdd, Int.reduceSub, Int.reduceNeg, Int.reduceToNat, Nat.reduceAdd, Nat.reduceMul, Nat.reduceSub, reduceCtorEq, RC, Int.cast_ofNat_Int, hn, g1, g6, g24, g25, g26, g7, ho.noTuple]
      exact ⟨out, hT, .inl ⟨hoN, ov, rfl, hS.sub (.cons_cons _ (List.nil_sublist _))⟩⟩
  · have hS := hS.trans hS2
    simp only [List.nil_append, List.cons_append, List.append_nil, List.set_cons_zero, List.set_cons_succ, setMany_cons, setMany_nil, Nat.zero_add, Nat.mul_one, Nat.add_zero] at hS
    repeat first | (with_reducible first | refine Wp.seq ?_ | refine Wp.reg ?_ | refine Wp.block ?_ | refine Wp.skip ?_ | refine Wp.ret ?_ | refine Wp.exit ?_ | refine Wp.label ?_ | refine Wp.condG ?_) | simp (disch := omega) only [↓RP, RQ, TS, TR, ↓reduceIte, Nat.reduceEqDiff, Nat.reduceLT, Nat.reduceLeDiff, Int.reduceLT, Int.reduceLE, Int.reduceEq, Int.reduceAdd, Int.reduceSub, Int.reduceNeg, Int.reduceToNat, Nat.reduceAdd, Nat.reduceMul, Nat.reduceSub, reduceCtorEq, RC, Int.cast_ofNat_Int, hn, g0]
    exact ⟨out, hT, .inr ⟨hlt, hst, hS.forget⟩⟩
end Go.Ds
/-
  The worked example of the layer: a closed run, by the kernel.
-/
namespace Go.Ds
open Go.Proofs

noncomputable def knownRun : Bool := match callF Try.prog (exD Try.prog 3000) 12 [] .nil with
  | some (.bool true, _) => true
  | _ => false
theorem knownRuns : knownRun = true := by kernel_rfl

theorem known_ok (H : Heap) : Fn Try.prog 12 [] H fun r H' => r = .bool true ∧ H' = H := by
  have h := knownRuns
  unfold knownRun at h
  split at h
  · rename_i H1 hr
    exact ⟨⟨Try.f12, rfl, rfl, by kernel_rfl⟩, _, H, CallOk.closed (by rfl) (CallOk.of_run hmix hr) H, rfl, rfl⟩
  · cases h
end Go.Ds
/-
  The law on Reach and Distance: its walk.
-/
namespace Go.Ds
open Go.Proofs Go.Plain
variable {H : Heap}

theorem mkE_length (a : Nat) (ls : List (Nat × Nat)) : (mkE a ls).length = ls.length := by simp [mkE]
theorem mkE_val (a : Nat) (ls : List (Nat × Nat)) : ∀ e ∈ mkE a ls, e.1 < mkN a ∧ e.2 < mkN a := by
  intro e he
  obtain ⟨x, _, rfl⟩ := List.mem_map.1 he
  have : 0 < mkN a := by unfold mkN; omega
  exact ⟨Nat.mod_lt _ this, Nat.mod_lt _ this⟩
theorem mkN_pos (a : Nat) : 0 < mkN a ∧ mkN a ≤ 7 := by unfold mkN; omega

theorem reaches_ok (a c : Nat) (ha : a < 256) (hc : c < 256) (v : Value) (ls : List (Nat × Nat)) (hv : Lk H v ls) (hb : ∀ x ∈ ls, x.1 < 256 ∧ x.2 < 256) : Fn Try.prog 6 [U a, v, U c] H fun r H' => r = .bool true := by
  refine Fn.of_wp (fn := Try.f6) rfl rfl (by kernel_rfl) fun l hl => ?_
  have hn : l.length = 107 := by rw [hl]; rfl
  have g0 : get l 0 = U a := by rw [hl]; rfl
  have g1 : get l 1 = v := by rw [hl]; rfl
  have g2 : get l 2 = U c := by rw [hl]; rfl
  clear hl
  have hv0 : Sl2 H v _ _ ls := hv
  repeat first | (with_reducible first | refine Wp.seq ?_ | refine Wp.reg ?_ | refine Wp.block ?_ | refine Wp.skip ?_ | refine Wp.ret ?_ | refine Wp.exit ?_ | refine Wp.label ?_ | refine Wp.condG ?_) | simp (disch := omega) only [↓RP, RQ, TS, TR, ↓reduceIte, Nat.reduceEqDiff, Nat.reduceLT, Nat.reduceLeDiff, Int.reduceLT, Int.reduceLE, Int.reduceEq, Int.reduceAdd, Int.reduceSub, Int.reduceNeg, Int.reduceToNat, Nat.reduceAdd, Nat.reduceMul, Nat.reduceSub, reduceCtorEq, RC, Int.cast_ofNat_Int, hn, g0, g1, g2]
  refine callFW_of (known_ok H) ?_
  rintro r H1 ⟨rfl, rfl⟩
  repeat first | (with_reducible first | refine Wp.seq ?_ | refine Wp.reg ?_ | refine Wp.block ?_ | refine Wp.skip ?_ | refine Wp.ret ?_ | refine Wp.exit ?_ | refine Wp.label ?_ | refine Wp.condG ?_) | simp (disch := omega) only [↓RP, RQ, TS, TR, ↓reduceIte, Nat.reduceEqDiff, Nat.reduceLT, Nat.reduceLeDiff, Int.reduceLT, Int.reduceLE, Int.reduceEq, Int.reduceAdd, Int.reduceSub, Int.reduceNeg, Int.reduceToNat, Nat.reduceAdd, Nat.reduceMul, Nat.reduceSub, reduceCtorEq, RC, Int.cast_ofNat_Int, hn, g0, g1, g2, hv0.len]
  refine condW_split (fun h => ?_) (fun h => ?_)
  · repeat first | (with_reducible first | refine Wp.seq ?_ | refine Wp.reg ?_ | refine Wp.block ?_ | refine Wp.skip ?_ | refine Wp.ret ?_ | refine Wp.exit ?_ | refine Wp.label ?_ | refine Wp.condG ?_) | simp (disch := omega) only [↓RP, RQ, TS, TR, ↓reduceIte, Nat.reduceEqDiff, Nat.reduceLT, Nat.reduceLeDiff, Int.reduceLT, Int.reduceLE, Int.reduceEq, Int.reduceAdd, Int.reduceSub, Int.reduceNeg, Int.reduceToNat, Nat.reduceAdd, Nat.reduceMul, Nat.reduceSub, reduceCtorEq, RC, Int.cast_ofNat_Int, hn, g0, g1, g2]
    refine callFW_of (known_ok _) ?_
    rintro r H1 ⟨rfl, rfl⟩
    repeat first | (with_reducible first | refine Wp.seq ?_ | refine Wp.reg ?_ | refine Wp.block ?_ | refine Wp.skip ?_ | refine Wp.ret ?_ | refine Wp.exit ?_ | refine Wp.label ?_ | refine Wp.condG ?_) | simp (disch := omega) only [↓RP, RQ, TS, TR, ↓reduceIte, Nat.reduceEqDiff, Nat.reduceLT, Nat.reduceLeDiff, Int.reduceLT, Int.reduceLE, Int.reduceEq, Int.reduceAdd, Int.reduceSub, Int.reduceNeg, Int.reduceToNat, Nat.reduceAdd, Nat.reduceMul, Nat.reduceSub, reduceCtorEq, RC, Int.cast_ofNat_Int, hn, g0, g1, g2]
  repeat first | (with_reducible first | refine Wp.seq ?_ | refine Wp.reg ?_ | refine Wp.block ?_ | refine Wp.skip ?_ | refine Wp.ret ?_ | refine Wp.exit ?_ | refine Wp.label ?_ | refine Wp.condG ?_) | simp (disch := omega) only [↓RP, RQ, TS, TR, ↓reduceIte, Nat.reduceEqDiff, Nat.reduceLT, Nat.reduceLeDiff, Int.reduceLT, Int.reduceLE, Int.reduceEq, Int.reduceAdd, Int.reduceSub, Int.reduceNeg, Int.reduceToNat, Nat.reduceAdd, Nat.reduceMul, Nat.reduceSub, reduceCtorEq, RC, Int.cast_ofNat_Int, hn, g0, g1, g2]
  refine callFW_of (make_ok a ha v ls hv (by omega) hb) ?_
  rintro r H2 ⟨w, rfl, hE, _⟩
  have hN := mkN_pos a
  have hval := mkE_val a ls
  have hl := mkE_length a ls
  generalize mkE a ls = es at hE hval hl
  generalize mkN a = N at hE hval hN
  have hs : c % N < N := Nat.mod_lt _ hN.1
  repeat first | (with_reducible first | refine Wp.seq ?_ | refine Wp.reg ?_ | refine Wp.block ?_ | refine Wp.skip ?_ | refine Wp.ret ?_ | refine Wp.exit ?_ | refine Wp.label ?_ | refine Wp.condG ?_) | simp (disch := omega) only [↓RP, RQ, TS, TR, ↓reduceIte, Nat.reduceEqDiff, Nat.reduceLT, Nat.reduceLeDiff, Int.reduceLT, Int.reduceLE, Int.reduceEq, Int.reduceAdd, Int.reduceSub, Int.reduceNeg, Int.reduceToNat, Nat.reduceAdd, Nat.reduceMul, Nat.reduceSub, reduceCtorEq, RC, Int.cast_ofNat_Int, hn, g0, g1, g2]
  refine (St.refl _ H2).eNew 2 [I 0, .slice none 0 0] rfl rfl rfl tS27 fun A H3 hS => ?_
  repeat first | (with_reducible first | refine Wp.seq ?_ | refine Wp.reg ?_ | refine Wp.block ?_ | refine Wp.skip ?_ | refine Wp.ret ?_ | refine Wp.exit ?_ | refine Wp.label ?_ | refine Wp.condG ?_) | simp (disch := omega) only [↓RP, RQ, TS, TR, ↓reduceIte, Nat.reduceEqDiff, Nat.reduceLT, Nat.reduceLeDiff, Int.reduceLT, Int.reduceLE, Int.reduceEq, Int.reduceAdd, Int.reduceSub, Int.reduceNeg, Int.reduceToNat, Nat.reduceAdd, Nat.reduceMul, Nat.reduceSub, reduceCtorEq, RC, Int.cast_ofNat_Int, hn, g0, g1, g2]
  refine hS.eStore 0 rfl [I N, w] rfl (by simp [hE.one]; rfl) tS27 (by simp) fun H4 hS => ?_
  simp only [List.nil_append, List.cons_append, List.append_nil, List.set_cons_zero, List.set_cons_succ, setMany_cons, setMany_nil, Nat.zero_add, Nat.mul_one, Nat.add_zero] at hS
  repeat first | (with_reducible first | refine Wp.seq ?_ | refine Wp.reg ?_ | refine Wp.block ?_ | refine Wp.skip ?_ | refine Wp.ret ?_ | refine Wp.exit ?_ | refine Wp.label ?_ | refine Wp.condG ?_) | simp (disch := omega) only [↓RP, RQ, TS, TR, ↓reduceIte, Nat.reduceEqDiff, Nat.reduceLT, Nat.reduceLeDiff, Int.reduceLT, Int.reduceLE, Int.reduceEq, Int.reduceAdd, Int.reduceSub, Int.reduceNeg, Int.reduceToNat, Nat.reduceAdd, Nat.reduceMul, Nat.reduceSub, reduceCtorEq, RC, Int.cast_ofNat_Int, hn, g0, g1, g2, hS.ld 0 rfl, wrap_fit, tmod_nat, hS.ldA 0 rfl]
  generalize c % N = s at hs
  refine callFW_of (reach_ok N w es (hS.base hE) (by omega) (by omega) hval s hs) ?_
  rintro r H5 ⟨d, wr, rfl, hd, hS5⟩
  have hS := hS.trans hS5
  simp only [List.nil_append, List.cons_append, List.append_nil, List.set_cons_zero, List.set_cons_succ, setMany_cons, setMany_nil, Nat.zero_add, Nat.mul_one, Nat.add_zero] at hS
  repeat first | (with_reducible first | refine Wp.seq ?_ | refine Wp.reg ?_ | refine Wp.block ?_ | refine Wp.skip ?_ | refine Wp.ret ?_ | refine Wp.exit ?_ | refine Wp.label ?_ | refine Wp.condG ?_) | simp (disch := omega) only [↓RP, RQ, TS, TR, ↓reduceIte, Nat.reduceEqDiff, Nat.reduceLT, Nat.reduceLeDiff, Int.reduceLT, Int.reduceLE, Int.reduceEq, Int.reduceAdd, Int.reduceSub, Int.reduceNeg, Int.reduceToNat, Nat.reduceAdd, Nat.reduceMul, Nat.reduceSub, reduceCtorEq, RC, Int.cast_ofNat_Int, hn, g0, g1, g2, hS.ldA 0 rfl]
  refine callFW_of (distance_ok N w es (hS.base hE) (by omega) (by omega) hval s hs) ?_
  rintro r H6 ⟨d', wd, rfl, hd', hS6⟩
  obtain rfl := hd.eq hd'
  have hS6 := hS.trans hS6
  simp only [List.nil_append, List.cons_append, List.append_nil, List.set_cons_zero, List.set_cons_succ, setMany_cons, setMany_nil, Nat.zero_add, Nat.mul_one, Nat.add_zero] at hS6
  repeat first | (with_reducible first | refine Wp.seq ?_ | refine Wp.reg ?_ | refine Wp.block ?_ | refine Wp.skip ?_ | refine Wp.ret ?_ | refine Wp.exit ?_ | refine Wp.label ?_ | refine Wp.condG ?_) | simp (disch := omega) only [↓RP, RQ, TS, TR, ↓reduceIte, Nat.reduceEqDiff, Nat.reduceLT, Nat.reduceLeDiff, Int.reduceLT, Int.reduceLE, Int.reduceEq, Int.reduceAdd, Int.reduceSub, Int.reduceNeg, Int.reduceToNat, Nat.reduceAdd, Nat.reduceMul, Nat.reduceSub, reduceCtorEq, RC, Int.cast_ofNat_Int, hn, g0, g1, g2]
  refine Wp.drwT hmix [(1, 4)] (by kernel_rfl) (by kernel_rfl) ?_
  repeat first | (with_reducible first | refine Wp.seq ?_ | refine Wp.reg ?_ | refine Wp.block ?_ | refine Wp.skip ?_ | refine Wp.ret ?_ | refine Wp.exit ?_ | refine Wp.label ?_ | refine Wp.condG ?_) | simp (disch := omega) only [↓RP, RQ, TS, TR, ↓reduceIte, Nat.reduceEqDiff, Nat.reduceLT, Nat.reduceLeDiff, Int.reduceLT, Int.reduceLE, Int.reduceEq, Int.reduceAdd, Int.reduceSub, Int.reduceNeg, Int.reduceToNat, Nat.reduceAdd, Nat.reduceMul, Nat.reduceSub, reduceCtorEq, RC, Int.cast_ofNat_Int, hn, g0, g1, g2, hS6.ldA 0 rfl, hS6.ld 0 rfl]
  refine callFW_of (edges_ok N w es (hS6.base hE) (by omega)) ?_
  rintro ev H7 ⟨hEv, hS7⟩
  have hS7 := hS6.trans hS7
  simp only [List.nil_append, List.cons_append, List.append_nil, List.set_cons_zero, List.set_cons_succ, setMany_cons, setMany_nil, Nat.zero_add, Nat.mul_one, Nat.add_zero] at hS7
  repeat first | (with_reducible first | refine Wp.seq ?_ | refine Wp.reg ?_ | refine Wp.block ?_ | refine Wp.skip ?_ | refine Wp.ret ?_ | refine Wp.exit ?_ | refine Wp.label ?_ | refine Wp.condG ?_) | simp (disch := omega) only [↓RP, RQ, TS, TR, ↓reduceIte, Nat.reduceEqDiff, Nat.reduceLT, Nat.reduceLeDiff, Int.reduceLT, Int.reduceLE, Int.reduceEq, Int.reduceAdd, Int.reduceSub, Int.reduceNeg, Int.reduceToNat, Nat.reduceAdd, Nat.reduceMul, Nat.reduceSub, reduceCtorEq, RC, Int.cast_ofNat_Int, hn, g0, g1, g2]
  refine callFW_of (steps_ok N ev es hEv (by omega) (by omega) hval) ?_
  rintro st H8 ⟨ws, rows, hrows, hS8⟩
  have hS8 := hS7.trans hS8
  simp only [List.nil_append, List.cons_append, List.append_nil, List.set_cons_zero, List.set_cons_succ, setMany_cons, setMany_nil, Nat.zero_add, Nat.mul_one, Nat.add_zero] at hS8
  have hwd : Sl1 H8 wd (.int .i64) d := hS8.rd 2 rfl
  have hwr : Sl1 H8 wr (fun n : Nat => I n) ((List.range N).filter fun k => decide (0 ≤ d.getD k 0)) := hS8.rd 1 rfl
  have hst : Sl1 H8 st ws (List.range N) := hS8.rd 3 rfl
  have hdl := hd.len
  have hrl : (List.range N).length = N := List.length_range
  repeat first | (with_reducible first | refine Wp.seq ?_ | refine Wp.reg ?_ | refine Wp.block ?_ | refine Wp.skip ?_ | refine Wp.ret ?_ | refine Wp.exit ?_ | refine Wp.label ?_ | refine Wp.condG ?_) | simp (disch := omega) only [↓RP, RQ, TS, TR, ↓reduceIte, Nat.reduceEqDiff, Nat.reduceLT, Nat.reduceLeDiff, Int.reduceLT, Int.reduceLE, Int.reduceEq, Int.reduceAdd, Int.reduceSub, Int.reduceNeg, Int.reduceToNat, Nat.reduceAdd, Nat.reduceMul, Nat.reduceSub, reduceCtorEq, RC, Int.cast_ofNat_Int, hn, g0, g1, g2, hS7.ld 0 rfl, hS8.ld 0 rfl, hwd.len]
  refine condW_split (fun h => absurd h (by omega)) (fun _ => ?_)
  repeat first | (with_reducible first | refine Wp.seq ?_ | refine Wp.reg ?_ | refine Wp.block ?_ | refine Wp.skip ?_ | refine Wp.ret ?_ | refine Wp.exit ?_ | refine Wp.label ?_ | refine Wp.condG ?_) | simp (disch := omega) only [↓RP, RQ, TS, TR, ↓reduceIte, Nat.reduceEqDiff, Nat.reduceLT, Nat.reduceLeDiff, Int.reduceLT, Int.reduceLE, Int.reduceEq, Int.reduceAdd, Int.reduceSub, Int.reduceNeg, Int.reduceToNat, Nat.reduceAdd, Nat.reduceMul, Nat.reduceSub, reduceCtorEq, RC, Int.cast_ofNat_Int, hn, g0, g1, g2]
  have hrow : Sl1 H8 (ws s) (fun n : Nat => I n) (rows s) := hS8.rd (s + 4) (inner_get N ws rows s hs)
  have hwant := fun i hi => want_eq hd (hrows s hs) i hi
  have hrlen := (hrows s hs).len
  refine Wp.loopN (fun n l H' => H' = H8 ∧ l.length = 107 ∧ get l 7 = ptr A 0 2 ∧ get l 8 = I s ∧ get l 9 = wr ∧ get l 11 = wd ∧ get l 13 = st ∧ ∃ i : Nat, n + i = N ∧ get l 15 = I i ∧
    get l 14 = I ((List.range i).filter fun k => decide (0 ≤ d.getD k 0)).length) N ?_ ?_
  · repeat first | (with_reducible first | refine Wp.seq ?_ | refine Wp.reg ?_ | refine Wp.block ?_ | refine Wp.skip ?_ | refine Wp.ret ?_ | refine Wp.exit ?_ | refine Wp.label ?_ | refine Wp.condG ?_) | simp (disch := omega) only [↓RP, RQ, TS, TR, ↓reduceIte, Nat.reduceEqDiff, Nat.reduceLT, Nat.reduceLeDiff, Int.reduceLT, Int.reduceLE, Int.reduceEq, Int.reduceAdd, Int.reduceSub, Int.reduceNeg, Int.reduceToNat, Nat.reduceAdd, Nat.reduceMul, Nat.reduceSub, reduceCtorEq, RC, Int.cast_ofNat_Int, hn, g0, g1, g2]
    exact ⟨0, rfl, rfl, rfl⟩
  clear hn g0 g1 g2
  rintro n l H' ⟨rfl, hn, g7, g8, g9, g11, g13, i, hi, g15, g14⟩
  repeat first | (with_reducible first | refine Wp.seq ?_ | refine Wp.reg ?_ | refine Wp.block ?_ | refine Wp.skip ?_ | refine Wp.ret ?_ | refine Wp.exit ?_ | refine Wp.label ?_ | refine Wp.condG ?_) | simp (disch := omega) only [↓RP, RQ, TS, TR, ↓reduceIte, Nat.reduceEqDiff, Nat.reduceLT, Nat.reduceLeDiff, Int.reduceLT, Int.reduceLE, Int.reduceEq, Int.reduceAdd, Int.reduceSub, Int.reduceNeg, Int.reduceToNat, Nat.reduceAdd, Nat.reduceMul, Nat.reduceSub, reduceCtorEq, RC, Int.cast_ofNat_Int, hn, g7, g8, g9, g11, g13, g14, g15, hS8.ld 0 rfl]
  refine condW_split (fun h3 => ?_) (fun h3 => ?_)
  · have hiN : i < N := by omega
    have hw := hwant i hiN
    repeat first | (with_reducible first | refine Wp.seq ?_ | refine Wp.reg ?_ | refine Wp.block ?_ | refine Wp.skip ?_ | refine Wp.ret ?_ | refine Wp.exit ?_ | refine Wp.label ?_ | refine Wp.condG ?_) | simp (disch := omega) only [↓RP, RQ, TS, TR, ↓reduceIte, Nat.reduceEqDiff, Nat.reduceLT, Nat.reduceLeDiff, Int.reduceLT, Int.reduceLE, Int.reduceEq, Int.reduceAdd, Int.reduceSub, Int.reduceNeg, Int.reduceToNat, Nat.reduceAdd, Nat.reduceMul, Nat.reduceSub, reduceCtorEq, RC, Int.cast_ofNat_Int, hn, g7, g8, g9, g11, g13, g14, g15, hst.idx, hst.ld 0, getD_range, hrow.idx, hrow.ld 0]
    refine condW_cut (fun e l H2 => e = .normal ∧ H2 = H' ∧ l.length = 107 ∧ get l 7 = ptr A 0 2 ∧ get l 8 = I s ∧ get l 9 = wr ∧ get l 11 = wd ∧ get l 13 = st ∧ get l 15 = I i ∧ get l 14 = I ((List.range i).filter fun k => decide (0 ≤ d.getD k 0)).length ∧ get l 16 = I (d.getD i 0)) ?_ ?_
    · refine condW_split (fun h4 => ?_) (fun h4 => ?_)
      · repeat first | (with_reducible first | refine Wp.seq ?_ | refine Wp.reg ?_ | refine Wp.block ?_ | refine Wp.skip ?_ | refine Wp.ret ?_ | refine Wp.exit ?_ | refine Wp.label ?_ | refine Wp.condG ?_) | simp (disch := omega) only [↓RP, RQ, TS, TR, ↓reduceIte, Nat.reduceEqDiff, Nat.reduceLT, Nat.reduceLeDiff, Int.reduceLT, Int.reduceLE, Int.reduceEq, Int.reduceAdd, Int.reduceSub, Int.reduceNeg, Int.reduceToNat, Nat.reduceAdd, Nat.reduceMul, Nat.reduceSub, reduceCtorEq, RC, Int.cast_ofNat_Int, hn, g7, g8, g9, g11, g13, g14, g15]
        rw [hw, if_pos (by omega)]
      · repeat first | (with_reducible first | refine Wp.seq ?_ | refine Wp.reg ?_ | refine Wp.block ?_ | refine Wp.skip ?_ | refine Wp.ret ?_ | refine Wp.exit ?_ | refine Wp.label ?_ | refine Wp.condG ?_) | simp (disch := omega) only [↓RP, RQ, TS, TR, ↓reduceIte, Nat.reduceEqDiff, Nat.reduceLT, Nat.reduceLeDiff, Int.reduceLT, Int.reduceLE, Int.reduceEq, Int.reduceAdd, Int.reduceSub, Int.reduceNeg, Int.reduceToNat, Nat.reduceAdd, Nat.reduceMul, Nat.reduceSub, reduceCtorEq, RC, Int.cast_ofNat_Int, hn, g7, g8, g9, g11, g13, g14, g15]
        rw [if_neg (by omega)] at hw
        refine condW_split (fun h5 => ?_) (fun h5 => ?_)
        · repeat first | (with_reducible first | refine Wp.seq ?_ | refine Wp.reg ?_ | refine Wp.block ?_ | refine Wp.skip ?_ | refine Wp.ret ?_ | refine Wp.exit ?_ | refine Wp.label ?_ | refine Wp.condG ?_) | simp (disch := omega) only [↓RP, RQ, TS, TR, ↓reduceIte, Nat.reduceEqDiff, Nat.reduceLT, Nat.reduceLeDiff, Int.reduceLT, Int.reduceLE, Int.reduceEq, Int.reduceAdd, Int.reduceSub, Int.reduceNeg, Int.reduceToNat, Nat.reduceAdd, Nat.reduceMul, Nat.reduceSub, reduceCtorEq, RC, Int.cast_ofNat_Int, hn, g7, g8, g9, g11, g13, g14, g15]
          rw [hw, if_pos (by omega)]
        · repeat first | (with_reducible first | refine Wp.seq ?_ | refine Wp.reg ?_ | refine Wp.block ?_ | refine Wp.skip ?_ | refine Wp.ret ?_ | refine Wp.exit ?_ | refine Wp.label ?_ | refine Wp.condG ?_) | simp (disch := omega) only [↓RP, RQ, TS, TR, ↓reduceIte, Nat.reduceEqDiff, Nat.reduceLT, Nat.reduceLeDiff, Int.reduceLT, Int.reduceLE, Int.reduceEq, Int.reduceAdd, Int.reduceSub, Int.reduceNeg, Int.reduceToNat, Nat.reduceAdd, Nat.reduceMul, Nat.reduceSub, reduceCtorEq, RC, Int.cast_ofNat_Int, hn, g7, g8, g9, g11, g13, g14, g15]
          rw [hw, if_neg (by omega)]
    clear hn g7 g8 g9 g11 g13 g14 g15
    rintro e l H2 ⟨rfl, rfl, hn, g7, g8, g9, g11, g13, g15, g14, g16⟩
    repeat first | (with_reducible first | refine Wp.seq ?_ | refine Wp.reg ?_ | refine Wp.block ?_ | refine Wp.skip ?_ | refine Wp.ret ?_ | refine Wp.exit ?_ | refine Wp.label ?_ | refine Wp.condG ?_) | simp (disch := omega) only [↓RP, RQ, TS, TR, ↓reduceIte, Nat.reduceEqDiff, Nat.reduceLT, Nat.reduceLeDiff, Int.reduceLT, Int.reduceLE, Int.reduceEq, Int.reduceAdd, Int.reduceSub, Int.reduceNeg, Int.reduceToNat, Nat.reduceAdd, Nat.reduceMul, Nat.reduceSub, reduceCtorEq, RC, Int.cast_ofNat_Int, hn, g7, g8, g9, g11, g13, g14, g15, g16, hwd.idx, hwd.ld 0]
    refine condW_split (fun h4 => ?_) (fun h4 => ?_)
    · have hf := filter_at (fun k => decide (0 ≤ d.getD k 0)) N i hiN (decide_eq_true h4)
      repeat first | (with_reducible first | refine Wp.seq ?_ | refine Wp.reg ?_ | refine Wp.block ?_ | refine Wp.skip ?_ | refine Wp.ret ?_ | refine Wp.exit ?_ | refine Wp.label ?_ | refine Wp.condG ?_) | simp (disch := omega) only [↓RP, RQ, TS, TR, ↓reduceIte, Nat.reduceEqDiff, Nat.reduceLT, Nat.reduceLeDiff, Int.reduceLT, Int.reduceLE, Int.reduceEq, Int.reduceAdd, Int.reduceSub, Int.reduceNeg, Int.reduceToNat, Nat.reduceAdd, Nat.reduceMul, Nat.reduceSub, reduceCtorEq, RC, Int.cast_ofNat_Int, hn, g7, g8, g9, g11, g13, g14, g15, g16, hwr.len]
      have hfl : ((List.range i).filter fun k => decide (0 ≤ d.getD k 0)).length ≤ i := by
        have := List.length_filter_le (fun k => decide (0 ≤ d.getD k 0)) (List.range i)
        simpa using this
      generalize hc1 : ((List.range i).filter fun k => decide (0 ≤ d.getD k 0)).length = c1 at hf g14 hfl ⊢
      generalize hc2 : ((List.range N).filter fun k => decide (0 ≤ d.getD k 0)) = c2 at hf hwr ⊢
      refine letG_split' (fun h5 => absurd h5 (by omega)) (fun h5 => ?_)
      have hf2 : (c2.getD c1 0 : Int) = i := by rw [hf.2]
      repeat first | (with_reducible first | refine Wp.seq ?_ | refine Wp.reg ?_ | refine Wp.block ?_ | refine Wp.skip ?_ | refine Wp.ret ?_ | refine Wp.exit ?_ | refine Wp.label ?_ | refine Wp.condG ?_) | simp (disch := omega) only [↓RP, RQ, TS, TR, ↓reduceIte, Nat.reduceEqDiff, Nat.reduceLT, Nat.reduceLeDiff, Int.reduceLT, Int.reduceLE, Int.reduceEq, Int.reduceAdd, Int.reduceSub, Int.reduceNeg, Int.reduceToNat, Nat.reduceAdd, Nat.reduceMul, Nat.reduceSub, reduceCtorEq, RC, Int.cast_ofNat_Int, hn, g7, g8, g9, g11, g13, g14, g15, g16, hwr.len, h5, hwr.idx, hwr.ld 0, hf2, wrap_fit]
      refine ⟨n - 1, by omega, i + 1, by omega, rfl, ?_⟩
      rw [List.range_succ, List.filter_append]
      have e : [i].filter (fun k => decide (0 ≤ d.getD k 0)) = [i] := by simp only [List.filter_cons, List.filter_nil, decide_eq_true h4, if_true]
      rw [e, List.length_append, hc1]
      rfl
    · repeat first | (with_reducible first | refine Wp.seq ?_ | refine Wp.reg ?_ | refine Wp.block ?_ | refine Wp.skip ?_ | refine Wp.ret ?_ | refine Wp.exit ?_ | refine Wp.label ?_ | refine Wp.condG ?_) | simp (disch := omega) only [↓RP, RQ, TS, TR, ↓reduceIte, Nat.reduceEqDiff, Nat.reduceLT, Nat.reduceLeDiff, Int.reduceLT, Int.reduceLE, Int.reduceEq, Int.reduceAdd, Int.reduceSub, Int.reduceNeg, Int.reduceToNat, Nat.reduceAdd, Nat.reduceMul, Nat.reduceSub, reduceCtorEq, RC, Int.cast_ofNat_Int, hn, g7, g8, g9, g11, g13, g14, g15, g16, wrap_fit]
      refine ⟨n - 1, by omega, i + 1, by omega, rfl, ?_⟩
      rw [List.range_succ, List.filter_append]
      have e : [i].filter (fun k => decide (0 ≤ d.getD k 0)) = [] := by simp only [List.filter_cons, List.filter_nil, decide_eq_false h4]; rfl
      rw [e, List.append_nil]
  · have e : i = N := by omega
    subst e
    repeat first | (with_reducible first | refine Wp.seq ?_ | refine Wp.reg ?_ | refine Wp.block ?_ | refine Wp.skip ?_ | refine Wp.ret ?_ | refine Wp.exit ?_ | refine Wp.label ?_ | refine Wp.condG ?_) | simp (disch := omega) only [↓RP, RQ, TS, TR, ↓reduceIte, Nat.reduceEqDiff, Nat.reduceLT, Nat.reduceLeDiff, Int.reduceLT, Int.reduceLE, Int.reduceEq, Int.reduceAdd, Int.reduceSub, Int.reduceNeg, Int.reduceToNat, Nat.reduceAdd, Nat.reduceMul, Nat.reduceSub, reduceCtorEq, RC, Int.cast_ofNat_Int, hn, g7, g8, g9, g11, g13, g14, g15, hwr.len]
end Go.Ds
/-
  Contracts: the reference's Cycle.
-/
namespace Go.Ds
open Go.Proofs Go.Plain
variable {H : Heap}

theorem refCycle_ok (N : Nat) (ev : Value) (es : List (Nat × Nat)) (hE : Eg H ev es) (hN : N ≤ 200) (he : es.length ≤ 1000) (hval : ∀ e ∈ es, e.1 < N ∧ e.2 < N) (hdN : ∀ k, k < es.length → dT es N 0 k ≤ N) (T : HasD es N) :
    Fn Try.prog 20 [I N, ev] H fun r H' => ∃ b : List Nat, Mst (cand es N) (fun i => dT es N 0 i) (fun i => cyc es N 0 i) es.length b ∧ b.length ≤ N + 1 ∧ St Try.prog H H' [⟨r, 1, nts b⟩] := by
  have hcl : ∀ i, i < es.length → cand es N i → ((cyc es N 0 i).length : Int) = dT es N 0 i + 1 := fun i hi h => (cyc_ch T (Nat.zero_le _) hi h.1).2.2
  refine Fn.of_wp (fn := Try.f20) rfl rfl (by kernel_rfl) fun l hl => ?_
  have hn : l.length = 106 := by rw [hl]; rfl
  have g0 : get l 0 = I N := by rw [hl]; rfl
  have g1 : get l 1 = ev := by rw [hl]; rfl
  clear hl
  repeat first | (with_reducible first | refine Wp.seq ?_ | refine Wp.reg ?_ | refine Wp.block ?_ | refine Wp.skip ?_ | refine Wp.ret ?_ | refine Wp.exit ?_ | refine Wp.label ?_ | refine Wp.condG ?_) | simp (disch := omega) only [↓RP, RQ, TS, TR, ↓reduceIte, Nat.reduceEqDiff, Nat.reduceLT, Nat.reduceLeDiff, Int.reduceLT, Int.reduceLE, Int.reduceEq, Int.reduceAdd, Int.reduceSub, Int.reduceNeg, Int.reduceToNat, Nat.reduceAdd, Nat.reduceMul, Nat.reduceSub, reduceCtorEq, RC, Int.cast_ofNat_Int, hn, g0, g1]
  refine callFW_of (steps_ok N ev es hE hN he hval) ?_
  rintro st H1 ⟨ws, rows, hrows, hS⟩
  have hS := (hS.nil 0).front
  repeat first | (with_reducible first | refine Wp.seq ?_ | refine Wp.reg ?_ | refine Wp.block ?_ | refine Wp.skip ?_ | refine Wp.ret ?_ | refine Wp.exit ?_ | refine Wp.label ?_ | refine Wp.condG ?_) | simp (disch := omega) only [↓RP, RQ, TS, TR, ↓reduceIte, Nat.reduceEqDiff, Nat.reduceLT, Nat.reduceLeDiff, Int.reduceLT, Int.reduceLE, Int.reduceEq, Int.reduceAdd, Int.reduceSub, Int.reduceNeg, Int.reduceToNat, Nat.reduceAdd, Nat.reduceMul, Nat.reduceSub, reduceCtorEq, RC, Int.cast_ofNat_Int, hn, g0, g1]
  refine Wp.loopN (fun n l H' => l.length = 106 ∧ get l 1 = ev ∧ get l 5 = st ∧ ∃ (k : Nat) (b : List Nat) (bv : Value), n + k = es.length ∧ get l 6 = bv ∧ get l 7 = I k ∧ Mst (cand es N) (fun i => dT es N 0 i) (fun i => cyc es N 0 i) k b ∧ b.length ≤ N + 1 ∧
    St Try.prog H H' (⟨bv, 1, nts b⟩ :: ⟨st, 1, (List.range N).map ws⟩ :: inner N ws rows)) es.length ?_ ?_
  · repeat first | (with_reducible first | refine Wp.seq ?_ | refine Wp.reg ?_ | refine Wp.block ?_ | refine Wp.skip ?_ | refine Wp.ret ?_ | refine Wp.exit ?_ | refine Wp.label ?_ | refine Wp.condG ?_) | simp (disch := omega) only [↓RP, RQ, TS, TR, ↓reduceIte, Nat.reduceEqDiff, Nat.reduceLT, Nat.reduceLeDiff, Int.reduceLT, Int.reduceLE, Int.reduceEq, Int.reduceAdd, Int.reduceSub, Int.reduceNeg, Int.reduceToNat, Nat.reduceAdd, Nat.reduceMul, Nat.reduceSub, reduceCtorEq, RC, Int.cast_ofNat_Int, hn, g0, g1]
    exact ⟨0, [], _, rfl, rfl, rfl, .first, by simp, hS⟩
  clear hS hn g0 g1
  rintro n l H' ⟨hn, g1, g5, k, b, bv, hk, g6, g7, hM, hbN, hS⟩
  have hv1 : Sl2 H' ev _ _ es := hS.base hE
  repeat first | (with_reducible first | refine Wp.seq ?_ | refine Wp.reg ?_ | refine Wp.block ?_ | refine Wp.skip ?_ | refine Wp.ret ?_ | refine Wp.exit ?_ | refine Wp.label ?_ | refine Wp.condG ?_) | simp (disch := omega) only [↓RP, RQ, TS, TR, ↓reduceIte, Nat.reduceEqDiff, Nat.reduceLT, Nat.reduceLeDiff, Int.reduceLT, Int.reduceLE, Int.reduceEq, Int.reduceAdd, Int.reduceSub, Int.reduceNeg, Int.reduceToNat, Nat.reduceAdd, Nat.reduceMul, Nat.reduceSub, reduceCtorEq, RC, Int.cast_ofNat_Int, hn, g1, g5, g6, g7, hv1.len]
  refine condW_split (fun h => ?_) (fun h => ?_)
  · have hkl : k < es.length := by omega
    have hm := hval _ (getD_mem (0, 0) hkl)
    have hd := T.at (first := 0) (Nat.zero_le _) hkl
    rw [List.drop_zero] at hd
    have hdk := hdN k hkl
    repeat first | (with_reducible first | refine Wp.seq ?_ | refine Wp.reg ?_ | refine Wp.block ?_ | refine Wp.skip ?_ | refine Wp.ret ?_ | refine Wp.exit ?_ | refine Wp.label ?_ | refine Wp.condG ?_) | simp (disch := omega) only [↓RP, RQ, TS, TR, ↓reduceIte, Nat.reduceEqDiff, Nat.reduceLT, Nat.reduceLeDiff, Int.reduceLT, Int.reduceLE, Int.reduceEq, Int.reduceAdd, Int.reduceSub, Int.reduceNeg, Int.reduceToNat, Nat.reduceAdd, Nat.reduceMul, Nat.reduceSub, reduceCtorEq, RC, Int.cast_ofNat_Int, hn, g1, g5, g6, g7]
    refine hS.eSlice [I k] tP29 tF29 rfl rfl (by simp [Value.cells]) rfl rfl (by decide) (by decide) fun cv H5 hS5 => ?_
    have hS5 := hS5.front
    have hv5 : Sl2 H5 ev _ _ es := hS5.base hE
    repeat first | (with_reducible first | refine Wp.seq ?_ | refine Wp.reg ?_ | refine Wp.block ?_ | refine Wp.skip ?_ | refine Wp.ret ?_ | refine Wp.exit ?_ | refine Wp.label ?_ | refine Wp.condG ?_) | with_reducible refine Wp.drw hmix (by kernel_rfl) ?_ | simp (disch := omega) only [↓RP, RQ, TS, TR, ↓reduceIte, Nat.reduceEqDiff, Nat.reduceLT, Nat.reduceLeDiff, Int.reduceLT, Int.reduceLE, Int.reduceEq, Int.reduceAdd, Int.reduceSub, Int.reduceNeg, Int.reduceToNat, Nat.reduceAdd, Nat.reduceMul, Nat.reduceSub, reduceCtorEq, RC, Int.cast_ofNat_Int, hn, g1, g5, g6, g7, hv5.idx, hv5.fld, hv5.ld0 (0, 0), hv5.ld1 (0, 0)]
    refine condW_cut (fun e l H2 => l.length = 106 ∧ get l 1 = ev ∧ get l 5 = st ∧ get l 6 = bv ∧ get l 7 = I k ∧
      ((e = .normal ∧ 0 ≤ dT es N 0 k ∧ ∃ cv, get l 8 = cv ∧ St Try.prog H H2 (⟨cv, 1, nts (cyc es N 0 k)⟩ :: ⟨bv, 1, nts b⟩ :: ⟨st, 1, (List.range N).map ws⟩ :: inner N ws rows)) ∨
       (e = .exit 1 ∧ ¬ 0 ≤ dT es N 0 k ∧ St Try.prog H H2 (⟨bv, 1, nts b⟩ :: ⟨st, 1, (List.range N).map ws⟩ :: inner N ws rows)))) ?_ ?_
    · refine condW_split (fun h3 => ?_) (fun h3 => ?_)
      · have hne : (es.getD k (0, 0)).2 ≠ (es.getD k (0, 0)).1 := fun e => h3 (by rw [e])
        have hst5 : Sl1 H5 st ws (List.range N) := hS5.rd 2 rfl
        have hrow5 : ∀ i, i < N → Sl1 H5 (ws i) (fun n : Nat => I n) (rows i) := fun i hi => hS5.rd (i + 3) (inner_get N ws rows i hi)
        have hr5 := hrow5 _ hm.2
        have hrl : (List.range N).length = N := List.length_range
        have hrlen := (hrows _ hm.2).len
        have hse := steps_eq hd hrows hm.1 hm.2 hne
        have hdT : dT es N 0 k = (dI es N 0 k).getD (es.getD k (0, 0)).2 0 := rfl
        repeat first | (with_reducible first | refine Wp.seq ?_ | refine Wp.reg ?_ | refine Wp.block ?_ | refine Wp.skip ?_ | refine Wp.ret ?_ | refine Wp.exit ?_ | refine Wp.label ?_ | refine Wp.condG ?_) | with_reducible refine Wp.drw hmix (by kernel_rfl) ?_ | simp (disch := omega) only [↓RP, RQ, TS, TR, ↓reduceIte, Nat.reduceEqDiff, Nat.reduceLT, Nat.reduceLeDiff, Int.reduceLT, Int.reduceLE, Int.reduceEq, Int.reduceAdd, Int.reduceSub, Int.reduceNeg, Int.reduceToNat, Nat.reduceAdd, Nat.reduceMul, Nat.reduceSub, reduceCtorEq, RC, Int.cast_ofNat_Int, hn, g1, g5, g6, g7, hv5.idx, hv5.fld, hv5.ld0 (0, 0), hv5.ld1 (0, 0), hst5.idx, hst5.ld 0, getD_range, hr5.idx, hr5.ld 0]
        refine condW_split (fun h4 => ?_) (fun h4 => ?_)
        · rw [if_pos (by omega)] at hse
          repeat first | (with_reducible first | refine Wp.seq ?_ | refine Wp.reg ?_ | refine Wp.block ?_ | refine Wp.skip ?_ | refine Wp.ret ?_ | refine Wp.exit ?_ | refine Wp.label ?_ | refine Wp.condG ?_) | simp (disch := omega) only [↓RP, RQ, TS, TR, ↓reduceIte, Nat.reduceEqDiff, Nat.reduceLT, Nat.reduceLeDiff, Int.reduceLT, Int.reduceLE, Int.reduceEq, Int.reduceAdd, Int.reduceSub, Int.reduceNeg, Int.reduceToNat, Nat.reduceAdd, Nat.reduceMul, Nat.reduceSub, reduceCtorEq, RC, Int.cast_ofNat_Int, hn, g1, g5, g6, g7]
          exact .inr ⟨by omega, hS5.tail⟩
        · rw [if_neg (by omega)] at hse
          repeat first | (with_reducible first | refine Wp.seq ?_ | refine Wp.reg ?_ | refine Wp.block ?_ | refine Wp.skip ?_ | refine Wp.ret ?_ | refine Wp.exit ?_ | refine Wp.label ?_ | refine Wp.condG ?_) | with_reducible refine Wp.drw hmix (by kernel_rfl) ?_ | simp (disch := omega) only [↓RP, RQ, TS, TR, ↓reduceIte, Nat.reduceEqDiff, Nat.reduceLT, Nat.reduceLeDiff, Int.reduceLT, Int.reduceLE, Int.reduceEq, Int.reduceAdd, Int.reduceSub, Int.reduceNeg, Int.reduceToNat, Nat.reduceAdd, Nat.reduceMul, Nat.reduceSub, reduceCtorEq, RC, Int.cast_ofNat_Int, hn, g1, g5, g6, g7, hv5.idx, hv5.fld, hv5.ld0 (0, 0), hv5.ld1 (0, 0)]
          refine callFW_of (refWalk_ok N ev st es ws rows (dI es N 0 k) (es.getD k (0, 0)).2 (es.getD k (0, 0)).1 (hS5.base hE) hst5 hrow5 hrows hd hval hm.2 hm.1 he hN (by omega) (by omega)) ?_
          rintro wr H6 hS6
          have hS6 := (hS5.trans hS6).front
          have hpl := pF_length es 0 (dI es N 0 k) ((dI es N 0 k).getD (es.getD k (0, 0)).2 0).toNat (es.getD k (0, 0)).2
          repeat first | (with_reducible first | refine Wp.seq ?_ | refine Wp.reg ?_ | refine Wp.block ?_ | refine Wp.skip ?_ | refine Wp.ret ?_ | refine Wp.exit ?_ | refine Wp.label ?_ | refine Wp.condG ?_) | simp (disch := omega) only [↓RP, RQ, TS, TR, ↓reduceIte, Nat.reduceEqDiff, Nat.reduceLT, Nat.reduceLeDiff, Int.reduceLT, Int.reduceLE, Int.reduceEq, Int.reduceAdd, Int.reduceSub, Int.reduceNeg, Int.reduceToNat, Nat.reduceAdd, Nat.reduceMul, Nat.reduceSub, reduceCtorEq, RC, Int.cast_ofNat_Int, hn, g1, g5, g6, g7]
          refine hS6.eAppend 1 rfl (hS6.rd 0 rfl) tP29 (by simp only [nts, List.length_map, List.length_cons, List.length_nil]; omega) fun cv' H7 hS7 => ?_
          simp only [List.nil_append, List.cons_append, List.append_nil, List.set_cons_zero, List.set_cons_succ, setMany_cons, setMany_nil, Nat.zero_add, Nat.mul_one, Nat.add_zero] at hS7
          repeat first | (with_reducible first | refine Wp.seq ?_ | refine Wp.reg ?_ | refine Wp.block ?_ | refine Wp.skip ?_ | refine Wp.ret ?_ | refine Wp.exit ?_ | refine Wp.label ?_ | refine Wp.condG ?_) | simp (disch := omega) only [↓RP, RQ, TS, TR, ↓reduceIte, Nat.reduceEqDiff, Nat.reduceLT, Nat.reduceLeDiff, Int.reduceLT, Int.reduceLE, Int.reduceEq, Int.reduceAdd, Int.reduceSub, Int.reduceNeg, Int.reduceToNat, Nat.reduceAdd, Nat.reduceMul, Nat.reduceSub, reduceCtorEq, RC, Int.cast_ofNat_Int, hn, g1, g5, g6, g7]
          exact .inl ⟨by omega, cv', rfl, hS7.tail⟩
      · have hee : (es.getD k (0, 0)).2 = (es.getD k (0, 0)).1 := by omega
        have h0 : dT es N 0 k = 0 := by
          unfold dT
          rw [hee]
          exact hd.self hm.1
        have hcy : cyc es N 0 k = [k] := by unfold cyc; rw [h0]; rfl
        repeat first | (with_reducible first | refine Wp.seq ?_ | refine Wp.reg ?_ | refine Wp.block ?_ | refine Wp.skip ?_ | refine Wp.ret ?_ | refine Wp.exit ?_ | refine Wp.label ?_ | refine Wp.condG ?_) | simp (disch := omega) only [↓RP, RQ, TS, TR, ↓reduceIte, Nat.reduceEqDiff, Nat.reduceLT, Nat.reduceLeDiff, Int.reduceLT, Int.reduceLE, Int.reduceEq, Int.reduceAdd, Int.reduceSub, Int.reduceNeg, Int.reduceToNat, Nat.reduceAdd, Nat.reduceMul, Nat.reduceSub, reduceCtorEq, RC, Int.cast_ofNat_Int, hn, g1, g5, g6, g7]
        rw [hcy]
        exact .inl ⟨by omega, cv, rfl, hS5⟩
    clear hn g1 g5 g6 g7 hS5 hS hv5
    rintro e l H2 ⟨hn, g1, g5, g6, g7, ⟨rfl, hpos, cv, g8, hS⟩ | ⟨rfl, hneg, hS⟩⟩
    · have hch := cyc_ch T (Nat.zero_le _) hkl hpos
      have hc0 : (cyc es N 0 k).getD 0 0 = k := rfl
      have hcand : cand es N k ↔ ∀ j, j < (cyc es N 0 k).length → k ≤ (cyc es N 0 k).getD j 0 := by
        constructor
        · intro h j hj
          exact h.2 _ (getD_mem' 0 hj)
        · intro h
          refine ⟨hpos, fun i hi => ?_⟩
          obtain ⟨j, hj, rfl⟩ := List.getElem_of_mem hi
          have := h j hj
          rwa [List.getD_eq_getElem?_getD, List.getElem?_eq_getElem hj] at this
      have hcw := hcl k hkl
      have hne : cyc es N 0 k ≠ [] := by simp [cyc]
      have hclen := hch.2.2
      generalize hcc : cyc es N 0 k = c at hS hc0 hcand hclen hne
      have hc1 : Sl1 H2 cv (fun n : Nat => I n) c := hS.rd 0 rfl
      have hb1 : Sl1 H2 bv (fun n : Nat => I n) b := hS.rd 1 rfl
      repeat first | (with_reducible first | refine Wp.seq ?_ | refine Wp.reg ?_ | refine Wp.block ?_ | refine Wp.skip ?_ | refine Wp.ret ?_ | refine Wp.exit ?_ | refine Wp.label ?_ | refine Wp.condG ?_) | simp (disch := omega) only [↓RP, RQ, TS, TR, ↓reduceIte, Nat.reduceEqDiff, Nat.reduceLT, Nat.reduceLeDiff, Int.reduceLT, Int.reduceLE, Int.reduceEq, Int.reduceAdd, Int.reduceSub, Int.reduceNeg, Int.reduceToNat, Nat.reduceAdd, Nat.reduceMul, Nat.reduceSub, reduceCtorEq, RC, Int.cast_ofNat_Int, hn, g1, g5, g6, g7, g8]
      refine Wp.mono (Q := fun e l2 H3 => e = .exit 2 ∧ H3 = H2 ∧ l2.length = 106 ∧ get l2 1 = ev ∧ get l2 5 = st ∧ get l2 6 = bv ∧ get l2 7 = I k ∧ get l2 8 = cv ∧ ∃ x : Bool, get l2 9 = .bool x ∧ (x = true ↔ cand es N k)) ?_ ?_
      · refine Wp.loopN (fun m l2 H3 => H3 = H2 ∧ l2.length = 106 ∧ get l2 1 = ev ∧ get l2 5 = st ∧ get l2 6 = bv ∧ get l2 7 = I k ∧ get l2 8 = cv ∧ ∃ (i : Nat) (x : Bool), m + i = c.length ∧ get l2 10 = I i ∧ get l2 9 = .bool x ∧ (x = true ↔ ∀ j, j < i → k ≤ c.getD j 0)) c.length ?_ ?_
        · repeat first | (with_reducible first | refine Wp.seq ?_ | refine Wp.reg ?_ | refine Wp.block ?_ | refine Wp.skip ?_ | refine Wp.ret ?_ | refine Wp.exit ?_ | refine Wp.label ?_ | refine Wp.condG ?_) | simp (disch := omega) only [↓RP, RQ, TS, TR, ↓reduceIte, Nat.reduceEqDiff, Nat.reduceLT, Nat.reduceLeDiff, Int.reduceLT, Int.reduceLE, Int.reduceEq, Int.reduceAdd, Int.reduceSub, Int.reduceNeg, Int.reduceToNat, Nat.reduceAdd, Nat.reduceMul, Nat.reduceSub, reduceCtorEq, RC, Int.cast_ofNat_Int, hn, g1, g5, g6, g7, g8]
          exact ⟨0, true, rfl, rfl, rfl, fun _ j hj => absurd hj (Nat.not_lt_zero _), fun _ => rfl⟩
        clear hn g1 g5 g6 g7 g8
        rintro m l2 H3 ⟨rfl, hn, g1, g5, g6, g7, g8, i, x, hi, g10, g9, hx⟩
        repeat first | (with_reducible first | refine Wp.seq ?_ | refine Wp.reg ?_ | refine Wp.block ?_ | refine Wp.skip ?_ | refine Wp.ret ?_ | refine Wp.exit ?_ | refine Wp.label ?_ | refine Wp.condG ?_) | simp (disch := omega) only [↓RP, RQ, TS, TR, ↓reduceIte, Nat.reduceEqDiff, Nat.reduceLT, Nat.reduceLeDiff, Int.reduceLT, Int.reduceLE, Int.reduceEq, Int.reduceAdd, Int.reduceSub, Int.reduceNeg, Int.reduceToNat, Nat.reduceAdd, Nat.reduceMul, Nat.reduceSub, reduceCtorEq, RC, Int.cast_ofNat_Int, hn, g1, g5, g6, g7, g8, g9, g10, hc1.len]
        refine condW_split (fun h4 => ?_) (fun h4 => ?_)
        · cases x with
          | true =>
            repeat first | (with_reducible first | refine Wp.seq ?_ | refine Wp.reg ?_ | refine Wp.block ?_ | refine Wp.skip ?_ | refine Wp.ret ?_ | refine Wp.exit ?_ | refine Wp.label ?_ | refine Wp.condG ?_) | simp (disch := omega) only [↓RP, RQ, TS, TR, ↓reduceIte, Nat.reduceEqDiff, Nat.reduceLT, Nat.reduceLeDiff, Int.reduceLT, Int.reduceLE, Int.reduceEq, Int.reduceAdd, Int.reduceSub, Int.reduceNeg, Int.reduceToNat, Nat.reduceAdd, Nat.reduceMul, Nat.reduceSub, reduceCtorEq, RC, Int.cast_ofNat_Int, hn, g1, g5, g6, g7, g8, g9, g10, hc1.idx, hc1.ld 0, wrap_fit]
            refine ⟨m - 1, by omega, i + 1, _, by omega, rfl, rfl, ?_⟩
            rw [decide_eq_true_eq]
            have hx' := hx.1 rfl
            constructor
            · intro h5 j hj
              by_cases e : j = i
              · subst e; omega
              · exact hx' j (by omega)
            · intro h5
              have := h5 i (by omega)
              omega
          | false =>
            repeat first | (with_reducible first | refine Wp.seq ?_ | refine Wp.reg ?_ | refine Wp.block ?_ | refine Wp.skip ?_ | refine Wp.ret ?_ | refine Wp.exit ?_ | refine Wp.label ?_ | refine Wp.condG ?_) | simp (disch := omega) only [↓RP, RQ, TS, TR, ↓reduceIte, Nat.reduceEqDiff, Nat.reduceLT, Nat.reduceLeDiff, Int.reduceLT, Int.reduceLE, Int.reduceEq, Int.reduceAdd, Int.reduceSub, Int.reduceNeg, Int.reduceToNat, Nat.reduceAdd, Nat.reduceMul, Nat.reduceSub, reduceCtorEq, RC, Int.cast_ofNat_Int, hn, g1, g5, g6, g7, g8, g9, g10, wrap_fit]
            refine ⟨m - 1, by omega, i + 1, false, by omega, rfl, rfl, ?_⟩
            constructor
            · intro h5; cases h5
            · intro h5
              exact hx.2 fun j hj => h5 j (by omega)
        · repeat first | (with_reducible first | refine Wp.seq ?_ | refine Wp.reg ?_ | refine Wp.block ?_ | refine Wp.skip ?_ | refine Wp.ret ?_ | refine Wp.exit ?_ | refine Wp.label ?_ | refine Wp.condG ?_) | simp (disch := omega) only [↓RP, RQ, TS, TR, ↓reduceIte, Nat.reduceEqDiff, Nat.reduceLT, Nat.reduceLeDiff, Int.reduceLT, Int.reduceLE, Int.reduceEq, Int.reduceAdd, Int.reduceSub, Int.reduceNeg, Int.reduceToNat, Nat.reduceAdd, Nat.reduceMul, Nat.reduceSub, reduceCtorEq, RC, Int.cast_ofNat_Int, hn, g1, g5, g6, g7, g8, g9, g10]
          refine ⟨x, rfl, ?_⟩
          rw [hx, hcand]
          rw [show i = c.length from by omega]
      · clear hn g1 g5 g6 g7 g8
        rintro e l H3 ⟨rfl, rfl, hn, g1, g5, g6, g7, g8, x, g9, hx⟩
        cases x with
        | false =>
          have hnc : ¬ cand es N k := fun hh => by have := hx.2 hh; cases this
          repeat first | (with_reducible first | refine Wp.seq ?_ | refine Wp.reg ?_ | refine Wp.block ?_ | refine Wp.skip ?_ | refine Wp.ret ?_ | refine Wp.exit ?_ | refine Wp.label ?_ | refine Wp.condG ?_) | simp (disch := omega) only [↓RP, RQ, TS, TR, ↓reduceIte, Nat.reduceEqDiff, Nat.reduceLT, Nat.reduceLeDiff, Int.reduceLT, Int.reduceLE, Int.reduceEq, Int.reduceAdd, Int.reduceSub, Int.reduceNeg, Int.reduceToNat, Nat.reduceAdd, Nat.reduceMul, Nat.reduceSub, reduceCtorEq, RC, Int.cast_ofNat_Int, hn, g1, g5, g6, g7, g8, g9, wrap_fit]
          exact ⟨n - 1, by omega, k + 1, b, bv, by omega, rfl, rfl, hM.none hnc, hbN, hS.tail⟩
        | true =>
          have hcd := hx.1 rfl
          have hnew : (b = [] ∨ dT es N 0 k + 1 < b.length) → Mst (cand es N) (fun i => dT es N 0 i) (fun i => cyc es N 0 i) (k + 1) c := fun hh => by
            have := hM.new (fun _ => by simp [cyc]) (fun j hj => hcl j (by omega)) hcd hh
            rwa [hcc] at this
          have hsub : St Try.prog H H3 (⟨cv, 1, nts c⟩ :: ⟨st, 1, (List.range N).map ws⟩ :: inner N ws rows) := hS.sub (.cons_cons _ (.cons _ (.refl _)))
          by_cases hb0 : b.length = 0
          · have e1 : ((b.length : Nat) : Int) = 0 := by omega
            repeat first | (with_reducible first | refine Wp.seq ?_ | refine Wp.reg ?_ | refine Wp.block ?_ | refine Wp.skip ?_ | refine Wp.ret ?_ | refine Wp.exit ?_ | refine Wp.label ?_ | refine Wp.condG ?_) | simp (disch := omega) only [↓RP, RQ, TS, TR, ↓reduceIte, Nat.reduceEqDiff, Nat.reduceLT, Nat.reduceLeDiff, Int.reduceLT, Int.reduceLE, Int.reduceEq, Int.reduceAdd, Int.reduceSub, Int.reduceNeg, Int.reduceToNat, Nat.reduceAdd, Nat.reduceMul, Nat.reduceSub, reduceCtorEq, RC, Int.cast_ofNat_Int, hn, g1, g5, g6, g7, g8, g9, hb1.len, hc1.len, e1, wrap_fit]
            exact ⟨n - 1, by omega, k + 1, c, cv, by omega, rfl, rfl, hnew (.inl (List.eq_nil_of_length_eq_zero hb0)), by omega, hsub⟩
          · have e1 : ¬ ((b.length : Nat) : Int) = 0 := by omega
            by_cases hb2 : c.length < b.length
            · have e2 : ((c.length : Nat) : Int) < ((b.length : Nat) : Int) := by omega
              repeat first | (with_reducible first | refine Wp.seq ?_ | refine Wp.reg ?_ | refine Wp.block ?_ | refine Wp.skip ?_ | refine Wp.ret ?_ | refine Wp.exit ?_ | refine Wp.label ?_ | refine Wp.condG ?_) | simp (disch := omega) only [↓RP, RQ, TS, TR, ↓reduceIte, Nat.reduceEqDiff, Nat.reduceLT, Nat.reduceLeDiff, Int.reduceLT, Int.reduceLE, Int.reduceEq, Int.reduceAdd, Int.reduceSub, Int.reduceNeg, Int.reduceToNat, Nat.reduceAdd, Nat.reduceMul, Nat.reduceSub, reduceCtorEq, RC, Int.cast_ofNat_Int, hn, g1, g5, g6, g7, g8, g9, hb1.len, hc1.len, e1, e2, wrap_fit]
              exact ⟨n - 1, by omega, k + 1, c, cv, by omega, rfl, rfl, hnew (.inr (by omega)), by omega, hsub⟩
            · have e2 : ¬ ((c.length : Nat) : Int) < ((b.length : Nat) : Int) := by omega
              have hkeep := hM.keep (fun j hj => hcl j (by omega)) (fun e => hb0 (by rw [e]; rfl)) (show ((b.length : Nat) : Int) ≤ dT es N 0 k + 1 by omega)
              by_cases hb3 : c.length = b.length
              · have e3 : ((c.length : Nat) : Int) = ((b.length : Nat) : Int) := by omega
                have hbk : b.getD 0 0 < c.getD 0 0 := by
                  rw [hc0]
                  rcases hM with ⟨h5, _⟩ | ⟨j, h5, _, h6, _⟩
                  · exact (hb0 (by rw [h5]; rfl)).elim
                  · rw [h6]
                    exact h5
                have e5 : ¬ ((b.length : Nat) : Int) < ((b.length : Nat) : Int) := by omega
                repeat first | (with_reducible first | refine Wp.seq ?_ | refine Wp.reg ?_ | refine Wp.block ?_ | refine Wp.skip ?_ | refine Wp.ret ?_ | refine Wp.exit ?_ | refine Wp.label ?_ | refine Wp.condG ?_) | simp (disch := omega) only [↓RP, RQ, TS, TR, ↓reduceIte, Nat.reduceEqDiff, Nat.reduceLT, Nat.reduceLeDiff, Int.reduceLT, Int.reduceLE, Int.reduceEq, Int.reduceAdd, Int.reduceSub, Int.reduceNeg, Int.reduceToNat, Nat.reduceAdd, Nat.reduceMul, Nat.reduceSub, reduceCtorEq, RC, Int.cast_ofNat_Int, hn, g1, g5, g6, g7, g8, g9, hb1.len, hc1.len, e1, e3, e5]
                refine callFW_of (less_ok cv bv c b hc1 hb1 (by omega) (by omega) hbk) ?_
                rintro r H4 ⟨rfl, rfl⟩
                repeat first | (with_reducible first | refine Wp.seq ?_ | refine Wp.reg ?_ | refine Wp.block ?_ | refine Wp.skip ?_ | refine Wp.ret ?_ | refine Wp.exit ?_ | refine Wp.label ?_ | refine Wp.condG ?_) | simp (disch := omega) only [↓RP, RQ, TS, TR, ↓reduceIte, Nat.reduceEqDiff, Nat.reduceLT, Nat.reduceLeDiff, Int.reduceLT, Int.reduceLE, Int.reduceEq, Int.reduceAdd, Int.reduceSub, Int.reduceNeg, Int.reduceToNat, Nat.reduceAdd, Nat.reduceMul, Nat.reduceSub, reduceCtorEq, RC, Int.cast_ofNat_Int, hn, g1, g5, g6, g7, g8, g9, hb1.len, hc1.len, e1, e3, e5, wrap_fit]
                exact ⟨n - 1, by omega, k + 1, b, bv, by omega, rfl, rfl, hkeep, hbN, hS.tail⟩
              · have e3 : ¬ ((c.length : Nat) : Int) = ((b.length : Nat) : Int) := by omega
                repeat first | (with_reducible first | refine Wp.seq ?_ | refine Wp.reg ?_ | refine Wp.block ?_ | refine Wp.skip ?_ | refine Wp.ret ?_ | refine Wp.exit ?_ | refine Wp.label ?_ | refine Wp.condG ?_) | simp (disch := omega) only [↓RP, RQ, TS, TR, ↓reduceIte, Nat.reduceEqDiff, Nat.reduceLT, Nat.reduceLeDiff, Int.reduceLT, Int.reduceLE, Int.reduceEq, Int.reduceAdd, Int.reduceSub, Int.reduceNeg, Int.reduceToNat, Nat.reduceAdd, Nat.reduceMul, Nat.reduceSub, reduceCtorEq, RC, Int.cast_ofNat_Int, hn, g1, g5, g6, g7, g8, g9, hb1.len, hc1.len, e1, e2, e3, wrap_fit]
                exact ⟨n - 1, by omega, k + 1, b, bv, by omega, rfl, rfl, hkeep, hbN, hS.tail⟩
    · repeat first | (with_reducible first | refine Wp.seq ?_ | refine Wp.reg ?_ | refine Wp.block ?_ | refine Wp.skip ?_ | refine Wp.ret ?_ | refine Wp.exit ?_ | refine Wp.label ?_ | refine Wp.condG ?_) | simp (disch := omega) only [↓RP, RQ, TS, TR, ↓reduceIte, Nat.reduceEqDiff, Nat.reduceLT, Nat.reduceLeDiff, Int.reduceLT, Int.reduceLE, Int.reduceEq, Int.reduceAdd, Int.reduceSub, Int.reduceNeg, Int.reduceToNat, Nat.reduceAdd, Nat.reduceMul, Nat.reduceSub, reduceCtorEq, RC, Int.cast_ofNat_Int, hn, g1, g5, g6, g7, wrap_fit]
      exact ⟨n - 1, by omega, k + 1, b, bv, by omega, rfl, rfl, hM.none (fun hh => hneg hh.1), hbN, hS⟩
  · repeat first | (with_reducible first | refine Wp.seq ?_ | refine Wp.reg ?_ | refine Wp.block ?_ | refine Wp.skip ?_ | refine Wp.ret ?_ | refine Wp.exit ?_ | refine Wp.label ?_ | refine Wp.condG ?_) | simp (disch := omega) only [↓RP, RQ, TS, TR, ↓reduceIte, Nat.reduceEqDiff, Nat.reduceLT, Nat.reduceLeDiff, Int.reduceLT, Int.reduceLE, Int.reduceEq, Int.reduceAdd, Int.reduceSub, Int.reduceNeg, Int.reduceToNat, Nat.reduceAdd, Nat.reduceMul, Nat.reduceSub, reduceCtorEq, RC, Int.cast_ofNat_Int, hn, g1, g5, g6, g7]
    have e : k = es.length := by omega
    subst e
    exact ⟨b, hM, hbN, hS.sub (.cons_cons _ (List.nil_sublist _))⟩
end Go.Ds
/-
  The law on Cycle: its walk.
-/
namespace Go.Ds
open Go.Proofs Go.Plain
variable {H : Heap}

theorem binB (a b : Bool) : plainD Try.prog ⟨none, .binOp .eql 4 (.tmp 0) (.tmp 1) 4, 4, "", #[], none⟩ [.bool a, .bool b] .nil = some (.bool (a == b), .nil) := by
  cases a <;> cases b <;> kernel_rfl

theorem binW_eqb {l : List Value} {K : Value → Heap → Prop} {d : Option Tmp} {ty : TypeId} {pos : String} {af : Array Edge} {g : Option (Nat × Bool)} {p q : Tmp} {t2 : TypeId} {a b : Bool} (hx : get l p = .bool a) (hy : get l q = .bool b) (h : K (.bool (a == b)) H) :
    binW Try.prog ⟨d, .binOp .eql 4 (.tmp p) (.tmp q) t2, ty, pos, af, g⟩ .eql l H (.bool a) (.bool b) K := by
  have hx' : ev l (.tmp p) = .bool a := hx
  have hy' : ev l (.tmp q) = .bool b := hy
  have h2 : execOp (ev l) ⟨d, .binOp .eql 4 (.tmp p) (.tmp q) t2, ty, pos, af, g⟩ = execOp (ev [.bool a, .bool b]) ⟨none, .binOp .eql 4 (.tmp 0) (.tmp 1) 4, 4, "", #[], none⟩ := by
    simp only [execOp]
    rw [hx', hy']
    rfl
  have h1 : plainD Try.prog ⟨d, .binOp .eql 4 (.tmp p) (.tmp q) t2, ty, pos, af, g⟩ l H = some (.bool (a == b), H) := by
    rw [plain_fst _ _ l [.bool a, .bool b] H ?_ h2, binB]
    · rfl
    · show [ev l (.tmp p), ev l (.tmp q)] = _
      rw [hx', hy']
      rfl
  show bindW (opD Try.prog ⟨d, .binOp .eql 4 (.tmp p) (.tmp q) t2, ty, pos, af, g⟩ l H) K
  have h3 : opD Try.prog ⟨d, .binOp .eql 4 (.tmp p) (.tmp q) t2, ty, pos, af, g⟩ l H = some (.bool (a == b), H) := by
    simp only [opD, hx', hy', h1]
  rw [h3]
  exact h

theorem dT_le (N : Nat) (v : Value) (es : List (Nat × Nat)) (hv : Eg H v es) (hN : N ≤ 200) (he : es.length ≤ 1000) (hval : ∀ e ∈ es, e.1 < N ∧ e.2 < N) : ∀ k, k < es.length → dT es N 0 k ≤ N := by
  intro k hk
  have hm := hval _ (getD_mem' (0, 0) hk)
  obtain ⟨_, r, H1, _, w, rfl, hE, _⟩ := turned_ok N v es hv he
  obtain ⟨_, r2, H2, _, d, hd, hdN, _⟩ := distances_ok N w (tE es) hE hN (by rw [tE_length]; exact he) (tE_val hval) (es.getD k (0, 0)).1 0 hm.1 (Nat.zero_le _)
  rw [tE_drop] at hd
  have : dI es N 0 k = d := dist_eq hd
  unfold dT
  rw [this]
  exact hdN _ hm.2

theorem cycles_ok (a : Nat) (ha : a < 256) (v : Value) (ls : List (Nat × Nat)) (hv : Lk H v ls) (hb : ∀ x ∈ ls, x.1 < 256 ∧ x.2 < 256) : Fn Try.prog 4 [U a, v] H fun r H' => r = .bool true := by
  refine Fn.of_wp (fn := Try.f4) rfl rfl (by kernel_rfl) fun l hl => ?_
  have hn : l.length = 46 := by rw [hl]; rfl
  have g0 : get l 0 = U a := by rw [hl]; rfl
  have g1 : get l 1 = v := by rw [hl]; rfl
  clear hl
  have hv0 : Sl2 H v _ _ ls := hv
  repeat first | (with_reducible first | refine Wp.seq ?_ | refine Wp.reg ?_ | refine Wp.block ?_ | refine Wp.skip ?_ | refine Wp.ret ?_ | refine Wp.exit ?_ | refine Wp.label ?_ | refine Wp.condG ?_) | simp (disch := omega) only [↓RP, RQ, TS, TR, ↓reduceIte, Nat.reduceEqDiff, Nat.reduceLT, Nat.reduceLeDiff, Int.reduceLT, Int.reduceLE, Int.reduceEq, Int.reduceAdd, Int.reduceSub, Int.reduceNeg, Int.reduceToNat, Nat.reduceAdd, Nat.reduceMul, Nat.reduceSub, reduceCtorEq, RC, Int.cast_ofNat_Int, hn, g0, g1]
  refine callFW_of (known_ok H) ?_
  rintro r H1 ⟨rfl, rfl⟩
  repeat first | (with_reducible first | refine Wp.seq ?_ | refine Wp.reg ?_ | refine Wp.block ?_ | refine Wp.skip ?_ | refine Wp.ret ?_ | refine Wp.exit ?_ | refine Wp.label ?_ | refine Wp.condG ?_) | simp (disch := omega) only [↓RP, RQ, TS, TR, ↓reduceIte, Nat.reduceEqDiff, Nat.reduceLT, Nat.reduceLeDiff, Int.reduceLT, Int.reduceLE, Int.reduceEq, Int.reduceAdd, Int.reduceSub, Int.reduceNeg, Int.reduceToNat, Nat.reduceAdd, Nat.reduceMul, Nat.reduceSub, reduceCtorEq, RC, Int.cast_ofNat_Int, hn, g0, g1, hv0.len]
  refine condW_split (fun h => ?_) (fun h => ?_)
  · repeat first | (with_reducible first | refine Wp.seq ?_ | refine Wp.reg ?_ | refine Wp.block ?_ | refine Wp.skip ?_ | refine Wp.ret ?_ | refine Wp.exit ?_ | refine Wp.label ?_ | refine Wp.condG ?_) | simp (disch := omega) only [↓RP, RQ, TS, TR, ↓reduceIte, Nat.reduceEqDiff, Nat.reduceLT, Nat.reduceLeDiff, Int.reduceLT, Int.reduceLE, Int.reduceEq, Int.reduceAdd, Int.reduceSub, Int.reduceNeg, Int.reduceToNat, Nat.reduceAdd, Nat.reduceMul, Nat.reduceSub, reduceCtorEq, RC, Int.cast_ofNat_Int, hn, g0, g1]
    refine callFW_of (known_ok _) ?_
    rintro r H1 ⟨rfl, rfl⟩
    repeat first | (with_reducible first | refine Wp.seq ?_ | refine Wp.reg ?_ | refine Wp.block ?_ | refine Wp.skip ?_ | refine Wp.ret ?_ | refine Wp.exit ?_ | refine Wp.label ?_ | refine Wp.condG ?_) | simp (disch := omega) only [↓RP, RQ, TS, TR, ↓reduceIte, Nat.reduceEqDiff, Nat.reduceLT, Nat.reduceLeDiff, Int.reduceLT, Int.reduceLE, Int.reduceEq, Int.reduceAdd, Int.reduceSub, Int.reduceNeg, Int.reduceToNat, Nat.reduceAdd, Nat.reduceMul, Nat.reduceSub, reduceCtorEq, RC, Int.cast_ofNat_Int, hn, g0, g1]
  repeat first | (with_reducible first | refine Wp.seq ?_ | refine Wp.reg ?_ | refine Wp.block ?_ | refine Wp.skip ?_ | refine Wp.ret ?_ | refine Wp.exit ?_ | refine Wp.label ?_ | refine Wp.condG ?_) | simp (disch := omega) only [↓RP, RQ, TS, TR, ↓reduceIte, Nat.reduceEqDiff, Nat.reduceLT, Nat.reduceLeDiff, Int.reduceLT, Int.reduceLE, Int.reduceEq, Int.reduceAdd, Int.reduceSub, Int.reduceNeg, Int.reduceToNat, Nat.reduceAdd, Nat.reduceMul, Nat.reduceSub, reduceCtorEq, RC, Int.cast_ofNat_Int, hn, g0, g1]
  refine callFW_of (make_ok a ha v ls hv (by omega) hb) ?_
  rintro r H2 ⟨w, rfl, hE, _⟩
  have hN := mkN_pos a
  have hval := mkE_val a ls
  have hl := mkE_length a ls
  generalize mkE a ls = es at hE hval hl
  generalize mkN a = N at hE hval hN
  repeat first | (with_reducible first | refine Wp.seq ?_ | refine Wp.reg ?_ | refine Wp.block ?_ | refine Wp.skip ?_ | refine Wp.ret ?_ | refine Wp.exit ?_ | refine Wp.label ?_ | refine Wp.condG ?_) | simp (disch := omega) only [↓RP, RQ, TS, TR, ↓reduceIte, Nat.reduceEqDiff, Nat.reduceLT, Nat.reduceLeDiff, Int.reduceLT, Int.reduceLE, Int.reduceEq, Int.reduceAdd, Int.reduceSub, Int.reduceNeg, Int.reduceToNat, Nat.reduceAdd, Nat.reduceMul, Nat.reduceSub, reduceCtorEq, RC, Int.cast_ofNat_Int, hn, g0, g1]
  refine (St.refl _ H2).eNew 2 [I 0, .slice none 0 0] rfl rfl rfl tS27 fun A H3 hS => ?_
  repeat first | (with_reducible first | refine Wp.seq ?_ | refine Wp.reg ?_ | refine Wp.block ?_ | refine Wp.skip ?_ | refine Wp.ret ?_ | refine Wp.exit ?_ | refine Wp.label ?_ | refine Wp.condG ?_) | simp (disch := omega) only [↓RP, RQ, TS, TR, ↓reduceIte, Nat.reduceEqDiff, Nat.reduceLT, Nat.reduceLeDiff, Int.reduceLT, Int.reduceLE, Int.reduceEq, Int.reduceAdd, Int.reduceSub, Int.reduceNeg, Int.reduceToNat, Nat.reduceAdd, Nat.reduceMul, Nat.reduceSub, reduceCtorEq, RC, Int.cast_ofNat_Int, hn, g0, g1]
  refine hS.eStore 0 rfl [I N, w] rfl (by simp [hE.one]; rfl) tS27 (by simp) fun H4 hS => ?_
  simp only [List.nil_append, List.cons_append, List.append_nil, List.set_cons_zero, List.set_cons_succ, setMany_cons, setMany_nil, Nat.zero_add, Nat.mul_one, Nat.add_zero] at hS
  repeat first | (with_reducible first | refine Wp.seq ?_ | refine Wp.reg ?_ | refine Wp.block ?_ | refine Wp.skip ?_ | refine Wp.ret ?_ | refine Wp.exit ?_ | refine Wp.label ?_ | refine Wp.condG ?_) | simp (disch := omega) only [↓RP, RQ, TS, TR, ↓reduceIte, Nat.reduceEqDiff, Nat.reduceLT, Nat.reduceLeDiff, Int.reduceLT, Int.reduceLE, Int.reduceEq, Int.reduceAdd, Int.reduceSub, Int.reduceNeg, Int.reduceToNat, Nat.reduceAdd, Nat.reduceMul, Nat.reduceSub, reduceCtorEq, RC, Int.cast_ofNat_Int, hn, g0, g1, hS.ldA 0 rfl]
  refine callFW_of (cycle_ok N w es (hS.base hE) (by omega) (by omega) hval) ?_
  rintro r H5 ⟨c, wc, hM, hcN, rfl, hS5⟩
  have hS := hS.trans hS5
  simp only [List.nil_append, List.cons_append, List.append_nil, List.set_cons_zero, List.set_cons_succ, setMany_cons, setMany_nil, Nat.zero_add, Nat.mul_one, Nat.add_zero] at hS
  repeat first | (with_reducible first | refine Wp.seq ?_ | refine Wp.reg ?_ | refine Wp.block ?_ | refine Wp.skip ?_ | refine Wp.ret ?_ | refine Wp.exit ?_ | refine Wp.label ?_ | refine Wp.condG ?_) | simp (disch := omega) only [↓RP, RQ, TS, TR, ↓reduceIte, Nat.reduceEqDiff, Nat.reduceLT, Nat.reduceLeDiff, Int.reduceLT, Int.reduceLE, Int.reduceEq, Int.reduceAdd, Int.reduceSub, Int.reduceNeg, Int.reduceToNat, Nat.reduceAdd, Nat.reduceMul, Nat.reduceSub, reduceCtorEq, RC, Int.cast_ofNat_Int, hn, g0, g1]
  refine Wp.drwT hmix [(1, 4)] (by kernel_rfl) (by kernel_rfl) ?_
  repeat first | (with_reducible first | refine Wp.seq ?_ | refine Wp.reg ?_ | refine Wp.block ?_ | refine Wp.skip ?_ | refine Wp.ret ?_ | refine Wp.exit ?_ | refine Wp.label ?_ | refine Wp.condG ?_) | simp (disch := omega) only [↓RP, RQ, TS, TR, ↓reduceIte, Nat.reduceEqDiff, Nat.reduceLT, Nat.reduceLeDiff, Int.reduceLT, Int.reduceLE, Int.reduceEq, Int.reduceAdd, Int.reduceSub, Int.reduceNeg, Int.reduceToNat, Nat.reduceAdd, Nat.reduceMul, Nat.reduceSub, reduceCtorEq, RC, Int.cast_ofNat_Int, hn, g0, g1, hS.ldA 0 rfl, hS.ld 0 rfl]
  refine callFW_of (edges_ok N w es (hS.base hE) (by omega)) ?_
  rintro ev H7 ⟨hEv, hS7⟩
  have hS7 := hS.trans hS7
  simp only [List.nil_append, List.cons_append, List.append_nil, List.set_cons_zero, List.set_cons_succ, setMany_cons, setMany_nil, Nat.zero_add, Nat.mul_one, Nat.add_zero] at hS7
  have T := tables N w es hE (by omega) (by omega) hval
  repeat first | (with_reducible first | refine Wp.seq ?_ | refine Wp.reg ?_ | refine Wp.block ?_ | refine Wp.skip ?_ | refine Wp.ret ?_ | refine Wp.exit ?_ | refine Wp.label ?_ | refine Wp.condG ?_) | simp (disch := omega) only [↓RP, RQ, TS, TR, ↓reduceIte, Nat.reduceEqDiff, Nat.reduceLT, Nat.reduceLeDiff, Int.reduceLT, Int.reduceLE, Int.reduceEq, Int.reduceAdd, Int.reduceSub, Int.reduceNeg, Int.reduceToNat, Nat.reduceAdd, Nat.reduceMul, Nat.reduceSub, reduceCtorEq, RC, Int.cast_ofNat_Int, hn, g0, g1]
  refine callFW_of (refCycle_ok N ev es hEv (by omega) (by omega) hval (dT_le N w es hE (by omega) (by omega) hval) T) ?_
  rintro rv H8 ⟨b, hMb, hbN, hS8⟩
  have hS8 := hS7.trans hS8
  simp only [List.nil_append, List.cons_append, List.append_nil, List.set_cons_zero, List.set_cons_succ, setMany_cons, setMany_nil, Nat.zero_add, Nat.mul_one, Nat.add_zero] at hS8
  have hcb := cycles_same T hM hMb
  subst hcb
  have hwc : Sl1 H8 wc (fun n : Nat => I n) c := hS8.rd 1 rfl
  have hrv : Sl1 H8 rv (fun n : Nat => I n) c := hS8.rd 2 rfl
  have e1 : decide ((0 : Int) < (c.length : Int)) = decide (0 < c.length) := by congr 1; simp
  repeat first | (with_reducible first | refine Wp.seq ?_ | refine Wp.reg ?_ | refine Wp.block ?_ | refine Wp.skip ?_ | refine Wp.ret ?_ | refine Wp.exit ?_ | refine Wp.label ?_ | refine Wp.condG ?_) | simp (disch := omega) only [↓RP, RQ, TS, TR, ↓reduceIte, Nat.reduceEqDiff, Nat.reduceLT, Nat.reduceLeDiff, Int.reduceLT, Int.reduceLE, Int.reduceEq, Int.reduceAdd, Int.reduceSub, Int.reduceNeg, Int.reduceToNat, Nat.reduceAdd, Nat.reduceMul, Nat.reduceSub, reduceCtorEq, RC, Int.cast_ofNat_Int, hn, g0, g1, hS7.ld 0 rfl, hS8.ld 0 rfl, hrv.len, e1]
  refine binW_eqb (by simp (disch := omega) only [↓RP, RQ, TS, TR, ↓reduceIte, Nat.reduceEqDiff, Nat.reduceLT, Nat.reduceLeDiff, Int.reduceLT, Int.reduceLE, Int.reduceEq, Int.reduceAdd, Int.reduceSub, Int.reduceNeg, Int.reduceToNat, Nat.reduceAdd, Nat.reduceMul, Nat.reduceSub, reduceCtorEq, RC, Int.cast_ofNat_Int, hn]) (by simp (disch := omega) only [↓RP, RQ, TS, TR, ↓reduceIte, Nat.reduceEqDiff, Nat.reduceLT, Nat.reduceLeDiff, Int.reduceLT, Int.reduceLE, Int.reduceEq, Int.reduceAdd, Int.reduceSub, Int.reduceNeg, Int.reduceToNat, Nat.reduceAdd, Nat.reduceMul, Nat.reduceSub, reduceCtorEq, RC, Int.cast_ofNat_Int, hn, e1]) ?_
  rw [BEq.rfl]
  repeat first | (with_reducible first | refine Wp.seq ?_ | refine Wp.reg ?_ | refine Wp.block ?_ | refine Wp.skip ?_ | refine Wp.ret ?_ | refine Wp.exit ?_ | refine Wp.label ?_ | refine Wp.condG ?_) | simp (disch := omega) only [↓RP, RQ, TS, TR, ↓reduceIte, Nat.reduceEqDiff, Nat.reduceLT, Nat.reduceLeDiff, Int.reduceLT, Int.reduceLE, Int.reduceEq, Int.reduceAdd, Int.reduceSub, Int.reduceNeg, Int.reduceToNat, Nat.reduceAdd, Nat.reduceMul, Nat.reduceSub, reduceCtorEq, RC, Int.cast_ofNat_Int, hn, g0, g1]
  refine callFW_of (same_ok wc rv (c.map Nat.cast) (c.map Nat.cast) ?_ ?_ (by rw [List.length_map]; omega)) ?_
  · unfold Sl1
    rw [List.map_map]
    exact hwc
  · unfold Sl1
    rw [List.map_map]
    exact hrv
  rintro r H11 ⟨rfl, rfl⟩
  rw [decide_eq_true rfl]
  repeat first | (with_reducible first | refine Wp.seq ?_ | refine Wp.reg ?_ | refine Wp.block ?_ | refine Wp.skip ?_ | refine Wp.ret ?_ | refine Wp.exit ?_ | refine Wp.label ?_ | refine Wp.condG ?_) | simp (disch := omega) only [↓RP, RQ, TS, TR, ↓reduceIte, Nat.reduceEqDiff, Nat.reduceLT, Nat.reduceLeDiff, Int.reduceLT, Int.reduceLE, Int.reduceEq, Int.reduceAdd, Int.reduceSub, Int.reduceNeg, Int.reduceToNat, Nat.reduceAdd, Nat.reduceMul, Nat.reduceSub, reduceCtorEq, RC, Int.cast_ofNat_Int, hn, g0, g1]
end Go.Ds
/-
  The law on the condensed graph, orders, cycles and needed edges: its walk.
-/
namespace Go.Ds
open Go.Proofs Go.Plain
variable {H : Heap}

theorem binBn (a b : Bool) : plainD Try.prog ⟨none, .binOp .neq 4 (.tmp 0) (.tmp 1) 4, 4, "", #[], none⟩ [.bool a, .bool b] .nil = some (.bool (a != b), .nil) := by
  cases a <;> cases b <;> kernel_rfl
theorem binW_neqb {l : List Value} {K : Value → Heap → Prop} {d : Option Tmp} {ty : TypeId} {pos : String} {af : Array Edge} {g : Option (Nat × Bool)} {p q : Tmp} {t2 : TypeId} {a b : Bool} (hx : get l p = .bool a) (hy : get l q = .bool b) (h : K (.bool (a != b)) H) :
    binW Try.prog ⟨d, .binOp .neq 4 (.tmp p) (.tmp q) t2, ty, pos, af, g⟩ .neq l H (.bool a) (.bool b) K := by
  have hx' : ev l (.tmp p) = .bool a := hx
  have hy' : ev l (.tmp q) = .bool b := hy
  have h2 : execOp (ev l) ⟨d, .binOp .neq 4 (.tmp p) (.tmp q) t2, ty, pos, af, g⟩ = execOp (ev [.bool a, .bool b]) ⟨none, .binOp .neq 4 (.tmp 0) (.tmp 1) 4, 4, "", #[], none⟩ := by
    simp only [execOp]
    rw [hx', hy']
    rfl
  have h1 : plainD Try.prog ⟨d, .binOp .neq 4 (.tmp p) (.tmp q) t2, ty, pos, af, g⟩ l H = some (.bool (a != b), H) := by
    rw [plain_fst _ _ l [.bool a, .bool b] H ?_ h2, binBn]
    · rfl
    · show [ev l (.tmp p), ev l (.tmp q)] = _
      rw [hx', hy']
      rfl
  show bindW (opD Try.prog ⟨d, .binOp .neq 4 (.tmp p) (.tmp q) t2, ty, pos, af, g⟩ l H) K
  have h3 : opD Try.prog ⟨d, .binOp .neq 4 (.tmp p) (.tmp q) t2, ty, pos, af, g⟩ l H = some (.bool (a != b), H) := by
    simp only [opD, hx', hy', h1]
  rw [h3]
  exact h

set_option maxRecDepth 10000 in
set_option maxHeartbeats 8000000 in
theorem law10_ok (a : Nat) (ha : a < 256) (v : Value) (ls : List (Nat × Nat)) (hv : Lk H v ls) (hb : ∀ x ∈ ls, x.1 < 256 ∧ x.2 < 256) : Fn Try.prog 10 [U a, v] H fun r H' => r = .bool true := by
  refine Fn.of_wp (fn := Try.f10) rfl rfl (by kernel_rfl) fun l hl => ?_
  have hn : l.length = 218 := by rw [hl]; rfl
  have g0 : get l 0 = U a := by rw [hl]; rfl
  have g1 : get l 1 = v := by rw [hl]; rfl
  clear hl
  have hv0 : Sl2 H v _ _ ls := hv
  repeat first | (with_reducible first | refine Wp.seq ?_ | refine Wp.reg ?_ | refine Wp.block ?_ | refine Wp.skip ?_ | refine Wp.ret ?_ | refine Wp.exit ?_ | refine Wp.label ?_ | refine Wp.condG ?_) | simp (disch := omega) only [↓RP, RQ, TS, TR, ↓reduceIte, Nat.reduceEqDiff, Nat.reduceLT, Nat.reduceLeDiff, Int.reduceLT, Int.reduceLE, Int.reduceEq, Int.reduceAdd, Int.reduceSub, Int.reduceNeg, Int.reduceToNat, Nat.reduceAdd, Nat.reduceMul, Nat.reduceSub, reduceCtorEq, RC, Int.cast_ofNat_Int, hn, g0, g1]
  refine callFW_of (known_ok H) ?_
  rintro r H1 ⟨rfl, rfl⟩
  repeat first | (with_reducible first | refine Wp.seq ?_ | refine Wp.reg ?_ | refine Wp.block ?_ | refine Wp.skip ?_ | refine Wp.ret ?_ | refine Wp.exit ?_ | refine Wp.label ?_ | refine Wp.condG ?_) | simp (disch := omega) only [↓RP, RQ, TS, TR, ↓reduceIte, Nat.reduceEqDiff, Nat.reduceLT, Nat.reduceLeDiff, Int.reduceLT, Int.reduceLE, Int.reduceEq, Int.reduceAdd, Int.reduceSub, Int.reduceNeg, Int.reduceToNat, Nat.reduceAdd, Nat.reduceMul, Nat.reduceSub, reduceCtorEq, RC, Int.cast_ofNat_Int, hn, g0, g1, hv0.len]
  refine condW_split (fun h => ?_) (fun h => ?_)
  · repeat first | (with_reducible first | refine Wp.seq ?_ | refine Wp.reg ?_ | refine Wp.block ?_ | refine Wp.skip ?_ | refine Wp.ret ?_ | refine Wp.exit ?_ | refine Wp.label ?_ | refine Wp.condG ?_) | simp (disch := omega) only [↓RP, RQ, TS, TR, ↓reduceIte, Nat.reduceEqDiff, Nat.reduceLT, Nat.reduceLeDiff, Int.reduceLT, Int.reduceLE, Int.reduceEq, Int.reduceAdd, Int.reduceSub, Int.reduceNeg, Int.reduceToNat, Nat.reduceAdd, Nat.reduceMul, Nat.reduceSub, reduceCtorEq, RC, Int.cast_ofNat_Int, hn, g0, g1]
    refine callFW_of (known_ok _) ?_
    rintro r H1 ⟨rfl, rfl⟩
    repeat first | (with_reducible first | refine Wp.seq ?_ | refine Wp.reg ?_ | refine Wp.block ?_ | refine Wp.skip ?_ | refine Wp.ret ?_ | refine Wp.exit ?_ | refine Wp.label ?_ | refine Wp.condG ?_) | simp (disch := omega) only [↓RP, RQ, TS, TR, ↓reduceIte, Nat.reduceEqDiff, Nat.reduceLT, Nat.reduceLeDiff, Int.reduceLT, Int.reduceLE, Int.reduceEq, Int.reduceAdd, Int.reduceSub, Int.reduceNeg, Int.reduceToNat, Nat.reduceAdd, Nat.reduceMul, Nat.reduceSub, reduceCtorEq, RC, Int.cast_ofNat_Int, hn, g0, g1]
  repeat first | (with_reducible first | refine Wp.seq ?_ | refine Wp.reg ?_ | refine Wp.block ?_ | refine Wp.skip ?_ | refine Wp.ret ?_ | refine Wp.exit ?_ | refine Wp.label ?_ | refine Wp.condG ?_) | simp (disch := omega) only [↓RP, RQ, TS, TR, ↓reduceIte, Nat.reduceEqDiff, Nat.reduceLT, Nat.reduceLeDiff, Int.reduceLT, Int.reduceLE, Int.reduceEq, Int.reduceAdd, Int.reduceSub, Int.reduceNeg, Int.reduceToNat, Nat.reduceAdd, Nat.reduceMul, Nat.reduceSub, reduceCtorEq, RC, Int.cast_ofNat_Int, hn, g0, g1]
  refine callFW_of (make_ok a ha v ls hv (by omega) hb) ?_
  rintro r H2 ⟨w, rfl, hE, _⟩
  have hN := mkN_pos a
  have hval := mkE_val a ls
  have hl := mkE_length a ls
  generalize mkE a ls = es at hE hval hl
  generalize mkN a = N at hE hval hN
  have T := tables N w es hE (by omega) (by omega) hval
  repeat first | (with_reducible first | refine Wp.seq ?_ | refine Wp.reg ?_ | refine Wp.block ?_ | refine Wp.skip ?_ | refine Wp.ret ?_ | refine Wp.exit ?_ | refine Wp.label ?_ | refine Wp.condG ?_) | simp (disch := omega) only [↓RP, RQ, TS, TR, ↓reduceIte, Nat.reduceEqDiff, Nat.reduceLT, Nat.reduceLeDiff, Int.reduceLT, Int.reduceLE, Int.reduceEq, Int.reduceAdd, Int.reduceSub, Int.reduceNeg, Int.reduceToNat, Nat.reduceAdd, Nat.reduceMul, Nat.reduceSub, reduceCtorEq, RC, Int.cast_ofNat_Int, hn, g0, g1]
  refine (St.refl _ H2).eNew 2 [I 0, .slice none 0 0] rfl rfl rfl tS27 fun A H3 hS => ?_
  repeat first | (with_reducible first | refine Wp.seq ?_ | refine Wp.reg ?_ | refine Wp.block ?_ | refine Wp.skip ?_ | refine Wp.ret ?_ | refine Wp.exit ?_ | refine Wp.label ?_ | refine Wp.condG ?_) | simp (disch := omega) only [↓RP, RQ, TS, TR, ↓reduceIte, Nat.reduceEqDiff, Nat.reduceLT, Nat.reduceLeDiff, Int.reduceLT, Int.reduceLE, Int.reduceEq, Int.reduceAdd, Int.reduceSub, Int.reduceNeg, Int.reduceToNat, Nat.reduceAdd, Nat.reduceMul, Nat.reduceSub, reduceCtorEq, RC, Int.cast_ofNat_Int, hn, g0, g1]
  refine hS.eStore 0 rfl [I N, w] rfl (by simp [hE.one]; rfl) tS27 (by simp) fun H4 hS => ?_
  simp only [List.nil_append, List.cons_append, List.append_nil, List.set_cons_zero, List.set_cons_succ, setMany_cons, setMany_nil, Nat.zero_add, Nat.mul_one, Nat.add_zero] at hS
  repeat first | (with_reducible first | refine Wp.seq ?_ | refine Wp.reg ?_ | refine Wp.block ?_ | refine Wp.skip ?_ | refine Wp.ret ?_ | refine Wp.exit ?_ | refine Wp.label ?_ | refine Wp.condG ?_) | simp (disch := omega) only [↓RP, RQ, TS, TR, ↓reduceIte, Nat.reduceEqDiff, Nat.reduceLT, Nat.reduceLeDiff, Int.reduceLT, Int.reduceLE, Int.reduceEq, Int.reduceAdd, Int.reduceSub, Int.reduceNeg, Int.reduceToNat, Nat.reduceAdd, Nat.reduceMul, Nat.reduceSub, reduceCtorEq, RC, Int.cast_ofNat_Int, hn, g0, g1, hS.ldA 0 rfl]
  refine callFW_of (condense_ok N w es (hS.base hE) (by omega) (by omega) (by omega) hval) ?_
  rintro r H5 ⟨ds, wd, hT, rfl, lv, rest, hwd, hS2⟩
  have hS := hS.trans hS2
  simp only [List.nil_append, List.cons_append, List.append_nil, List.set_cons_zero, List.set_cons_succ, setMany_cons, setMany_nil, Nat.zero_add, Nat.mul_one, Nat.add_zero] at hS
  have hds := hT.1
  have hQ := eqv_of hds
  have hM := lds_le ds N
  have hsb := sd_bound hQ hval
  have hsl := sd_le (es := xe ds N es) (fun e he => by have := hsb e he; omega)
  have hxl := xe_le ds N es
  have hWs := W_sd hQ (by omega) hval
  repeat first | (with_reducible first | refine Wp.seq ?_ | refine Wp.reg ?_ | refine Wp.block ?_ | refine Wp.skip ?_ | refine Wp.ret ?_ | refine Wp.exit ?_ | refine Wp.label ?_ | refine Wp.condG ?_) | simp (disch := omega) only [↓RP, RQ, TS, TR, ↓reduceIte, Nat.reduceEqDiff, Nat.reduceLT, Nat.reduceLeDiff, Int.reduceLT, Int.reduceLE, Int.reduceEq, Int.reduceAdd, Int.reduceSub, Int.reduceNeg, Int.reduceToNat, Nat.reduceAdd, Nat.reduceMul, Nat.reduceSub, reduceCtorEq, RC, Int.cast_ofNat_Int, hn, g0, g1]
  refine hS.eNew 2 [I 0, .slice none 0 0] rfl rfl rfl tS27 fun B H6 hS => ?_
  have hEd := hwd _ (hS.rd 1 rfl)
  repeat first | (with_reducible first | refine Wp.seq ?_ | refine Wp.reg ?_ | refine Wp.block ?_ | refine Wp.skip ?_ | refine Wp.ret ?_ | refine Wp.exit ?_ | refine Wp.label ?_ | refine Wp.condG ?_) | simp (disch := omega) only [↓RP, RQ, TS, TR, ↓reduceIte, Nat.reduceEqDiff, Nat.reduceLT, Nat.reduceLeDiff, Int.reduceLT, Int.reduceLE, Int.reduceEq, Int.reduceAdd, Int.reduceSub, Int.reduceNeg, Int.reduceToNat, Nat.reduceAdd, Nat.reduceMul, Nat.reduceSub, reduceCtorEq, RC, Int.cast_ofNat_Int, hn, g0, g1]
  refine hS.eStore 2 rfl [I (lds ds N).length, wd] rfl (by simp [hEd.one]; rfl) tS27 (by simp) fun H7 hS => ?_
  simp only [List.nil_append, List.cons_append, List.append_nil, List.set_cons_zero, List.set_cons_succ, setMany_cons, setMany_nil, Nat.zero_add, Nat.mul_one, Nat.add_zero] at hS
  have hEd2 : Eg H7 wd (sd (xe ds N es)) := hwd _ (hS.rd 1 rfl)
  have hval2 : ∀ e ∈ sd (xe ds N es), e.1 < (lds ds N).length ∧ e.2 < (lds ds N).length := fun e he => hsb e ((hWs e).1 he)
  repeat first | (with_reducible first | refine Wp.seq ?_ | refine Wp.reg ?_ | refine Wp.block ?_ | refine Wp.skip ?_ | refine Wp.ret ?_ | refine Wp.exit ?_ | refine Wp.label ?_ | refine Wp.condG ?_) | simp (disch := omega) only [↓RP, RQ, TS, TR, ↓reduceIte, Nat.reduceEqDiff, Nat.reduceLT, Nat.reduceLeDiff, Int.reduceLT, Int.reduceLE, Int.reduceEq, Int.reduceAdd, Int.reduceSub, Int.reduceNeg, Int.reduceToNat, Nat.reduceAdd, Nat.reduceMul, Nat.reduceSub, reduceCtorEq, RC, Int.cast_ofNat_Int, hn, g0, g1, hS.ldA 2 rfl]
  refine callFW_of (order_ok (lds ds N).length wd (sd (xe ds N es)) hEd2 (by omega) (by omega) hval2) ?_
  rintro r H8 ⟨o0, w0, hT0, ⟨ho0, rfl, hS2⟩ | ⟨hlt, hst, _, _⟩⟩
  case inr =>
    obtain ⟨i, hi, hr, _⟩ := Top.more hval2 (fun n x hw => cond_acyclic hds hval n x (W.mono (fun e he => (hWs e).1 he) hw)) hlt
    exact absurd hr (hst i hi)
  have hS := hS.trans hS2
  simp only [List.nil_append, List.cons_append, List.append_nil, List.set_cons_zero, List.set_cons_succ, setMany_cons, setMany_nil, Nat.zero_add, Nat.mul_one, Nat.add_zero] at hS
  repeat first | (with_reducible first | refine Wp.seq ?_ | refine Wp.reg ?_ | refine Wp.block ?_ | refine Wp.skip ?_ | refine Wp.ret ?_ | refine Wp.exit ?_ | refine Wp.label ?_ | refine Wp.condG ?_) | simp (disch := omega) only [↓RP, RQ, TS, TR, ↓reduceIte, Nat.reduceEqDiff, Nat.reduceLT, Nat.reduceLeDiff, Int.reduceLT, Int.reduceLE, Int.reduceEq, Int.reduceAdd, Int.reduceSub, Int.reduceNeg, Int.reduceToNat, Nat.reduceAdd, Nat.reduceMul, Nat.reduceSub, reduceCtorEq, RC, Int.cast_ofNat_Int, hn, g0, g1, hS.ldA 0 rfl]
  refine callFW_of (order_ok N w es (hS.base hE) (by omega) (by omega) hval) ?_
  rintro r H9 ⟨o1, w1, hT1, hcase⟩
  have hfi := fun (c : List Nat) (hc : Mst (goOk es N) (fun i => dT es N i i) (fun i => cyc es N i i) es.length c) => found_iff T hc
  rcases hcase with ⟨ho1, rfl, hS2⟩ | ⟨hlt, hst, rfl, hS2⟩
  · have hno : ∀ n x, ¬ W es (n + 1) x x := fun n x hw => by
      have hw2 := hw
      obtain ⟨c, _, he⟩ := hw2
      exact hT1.around n x (nodup_all hT1.nodup hT1.lt ho1 x (hval _ he).2) hw
    have hS := hS.trans hS2
    simp only [List.nil_append, List.cons_append, List.append_nil, List.set_cons_zero, List.set_cons_succ, setMany_cons, setMany_nil, Nat.zero_add, Nat.mul_one, Nat.add_zero] at hS
    repeat first | (with_reducible first | refine Wp.seq ?_ | refine Wp.reg ?_ | refine Wp.block ?_ | refine Wp.skip ?_ | refine Wp.ret ?_ | refine Wp.exit ?_ | refine Wp.label ?_ | refine Wp.condG ?_) | simp (disch := omega) only [↓RP, RQ, TS, TR, ↓reduceIte, Nat.reduceEqDiff, Nat.reduceLT, Nat.reduceLeDiff, Int.reduceLT, Int.reduceLE, Int.reduceEq, Int.reduceAdd, Int.reduceSub, Int.reduceNeg, Int.reduceToNat, Nat.reduceAdd, Nat.reduceMul, Nat.reduceSub, reduceCtorEq, RC, Int.cast_ofNat_Int, hn, g0, g1, hS.ldA 0 rfl]
    refine callFW_of (cycle_ok N w es (hS.base hE) (by omega) (by omega) hval) ?_
    rintro r H10 ⟨c, wc, hMc, hcN, rfl, hS2⟩
    have hc0 : ¬ 0 < c.length := fun hh => by
      obtain ⟨n, x, hw⟩ := (hfi c hMc).1.1 hh
      exact hno n x hw
    rw [decide_eq_false hc0]
    have hS := hS.trans hS2
    simp only [List.nil_append, List.cons_append, List.append_nil, List.set_cons_zero, List.set_cons_succ, setMany_cons, setMany_nil, Nat.zero_add, Nat.mul_one, Nat.add_zero] at hS
    have hw1 : Sl1 H10 w1 (fun n : Nat => I n) o1 := hS.rd 4 rfl
    have d1 : decide (¬ ((N : Nat) : Int) = ((N : Nat) : Int)) = false := decide_eq_false (by omega)
    repeat first | (with_reducible first | refine Wp.seq ?_ | refine Wp.reg ?_ | refine Wp.block ?_ | refine Wp.skip ?_ | refine Wp.ret ?_ | refine Wp.exit ?_ | refine Wp.label ?_ | refine Wp.condG ?_) | simp (disch := omega) only [↓RP, RQ, TS, TR, ↓reduceIte, Nat.reduceEqDiff, Nat.reduceLT, Nat.reduceLeDiff, Int.reduceLT, Int.reduceLE, Int.reduceEq, Int.reduceAdd, Int.reduceSub, Int.reduceNeg, Int.reduceToNat, Nat.reduceAdd, Nat.reduceMul, Nat.reduceSub, reduceCtorEq, RC, Int.cast_ofNat_Int, hn, g0, g1]
    refine binW_neqb (by simp (disch := omega) only [↓RP, RQ, TS, TR, ↓reduceIte, Nat.reduceEqDiff, Nat.reduceLT, Nat.reduceLeDiff, Int.reduceLT, Int.reduceLE, Int.reduceEq, Int.reduceAdd, Int.reduceSub, Int.reduceNeg, Int.reduceToNat, Nat.reduceAdd, Nat.reduceMul, Nat.reduceSub, reduceCtorEq, RC, Int.cast_ofNat_Int, hn]) (by simp (disch := omega) only [↓RP, RQ, TS, TR, ↓reduceIte, Nat.reduceEqDiff, Nat.reduceLT, Nat.reduceLeDiff, Int.reduceLT, Int.reduceLE, Int.reduceEq, Int.reduceAdd, Int.reduceSub, Int.reduceNeg, Int.reduceToNat, Nat.reduceAdd, Nat.reduceMul, Nat.reduceSub, reduceCtorEq, RC, Int.cast_ofNat_Int, hn]) ?_
    rw [show (false != false) = false from rfl]
    repeat first | (with_reducible first | refine Wp.seq ?_ | refine Wp.reg ?_ | refine Wp.block ?_ | refine Wp.skip ?_ | refine Wp.ret ?_ | refine Wp.exit ?_ | refine Wp.label ?_ | refine Wp.condG ?_) | simp (disch := omega) only [↓RP, RQ, TS, TR, ↓reduceIte, Nat.reduceEqDiff, Nat.reduceLT, Nat.reduceLeDiff, Int.reduceLT, Int.reduceLE, Int.reduceEq, Int.reduceAdd, Int.reduceSub, Int.reduceNeg, Int.reduceToNat, Nat.reduceAdd, Nat.reduceMul, Nat.reduceSub, reduceCtorEq, RC, Int.cast_ofNat_Int, hn, g0, g1, hw1.len, ho1, hS.ld 0 rfl, d1]
    repeat first | (with_reducible first | refine Wp.seq ?_ | refine Wp.reg ?_ | refine Wp.block ?_ | refine Wp.skip ?_ | refine Wp.ret ?_ | refine Wp.exit ?_ | refine Wp.label ?_ | refine Wp.condG ?_) | simp (disch := omega) only [↓RP, RQ, TS, TR, ↓reduceIte, Nat.reduceEqDiff, Nat.reduceLT, Nat.reduceLeDiff, Int.reduceLT, Int.reduceLE, Int.reduceEq, Int.reduceAdd, Int.reduceSub, Int.reduceNeg, Int.reduceToNat, Nat.reduceAdd, Nat.reduceMul, Nat.reduceSub, reduceCtorEq, RC, Int.cast_ofNat_Int, hn, g0, g1, hS.ldA 0 rfl]
    refine callFW_of (needed_ok N w es (hS.base hE) (by omega) (by omega) hval) ?_
    rintro r H11 ⟨o2, hT2, ⟨ho2, wn, rfl, hS2⟩ | ⟨hlt, hst, _, _⟩⟩
    case inr =>
      obtain ⟨i, hi, hr, _⟩ := Top.more hval hno hlt
      exact absurd hr (hst i hi)
    have hS := (hS.sub (os' := [⟨ptr A 0 2, 0, [I N, w]⟩]) (.cons_cons _ (List.nil_sublist _))).trans hS2
    simp only [List.nil_append, List.cons_append, List.append_nil, List.set_cons_zero, List.set_cons_succ, setMany_cons, setMany_nil, Nat.zero_add, Nat.mul_one, Nat.add_zero] at hS
    repeat first | (with_reducible first | refine Wp.seq ?_ | refine Wp.reg ?_ | refine Wp.block ?_ | refine Wp.skip ?_ | refine Wp.ret ?_ | refine Wp.exit ?_ | refine Wp.label ?_ | refine Wp.condG ?_) | simp (disch := omega) only [↓RP, RQ, TS, TR, ↓reduceIte, Nat.reduceEqDiff, Nat.reduceLT, Nat.reduceLeDiff, Int.reduceLT, Int.reduceLE, Int.reduceEq, Int.reduceAdd, Int.reduceSub, Int.reduceNeg, Int.reduceToNat, Nat.reduceAdd, Nat.reduceMul, Nat.reduceSub, reduceCtorEq, RC, Int.cast_ofNat_Int, hn, g0, g1, hS.ld 0 rfl]
    refine hS.eNew 2 [I 0, .slice none 0 0] rfl rfl rfl tS27 fun D H12 hS => ?_
    have hS := hS.front
    repeat first | (with_reducible first | refine Wp.seq ?_ | refine Wp.reg ?_ | refine Wp.block ?_ | refine Wp.skip ?_ | refine Wp.ret ?_ | refine Wp.exit ?_ | refine Wp.label ?_ | refine Wp.condG ?_) | simp (disch := omega) only [↓RP, RQ, TS, TR, ↓reduceIte, Nat.reduceEqDiff, Nat.reduceLT, Nat.reduceLeDiff, Int.reduceLT, Int.reduceLE, Int.reduceEq, Int.reduceAdd, Int.reduceSub, Int.reduceNeg, Int.reduceToNat, Nat.reduceAdd, Nat.reduceMul, Nat.reduceSub, reduceCtorEq, RC, Int.cast_ofNat_Int, hn, g0, g1]
    refine hS.eStore 0 rfl [I N, .slice none 0 0] rfl rfl tS27 (by simp) fun H13 hS => ?_
    have hS := (hS.nil 1).front
    simp only [List.nil_append, List.cons_append, List.append_nil, List.set_cons_zero, List.set_cons_succ, setMany_cons, setMany_nil, Nat.zero_add, Nat.mul_one, Nat.add_zero] at hS
    have hwn : Sl1 H13 wn (fun n : Nat => I n) (ndd es es.length) := hS.rd 3 rfl
    have hnl := ndd_le es es.length
    have hll : (lss es).length = (ndd es es.length).length := by unfold lss; rw [List.length_map]
    have hlsv : ∀ e ∈ lss es, e.1 < N ∧ e.2 < N := fun e he => hval e (lss_mem he)
    repeat first | (with_reducible first | refine Wp.seq ?_ | refine Wp.reg ?_ | refine Wp.block ?_ | refine Wp.skip ?_ | refine Wp.ret ?_ | refine Wp.exit ?_ | refine Wp.label ?_ | refine Wp.condG ?_) | simp (disch := omega) only [↓RP, RQ, TS, TR, ↓reduceIte, Nat.reduceEqDiff, Nat.reduceLT, Nat.reduceLeDiff, Int.reduceLT, Int.reduceLE, Int.reduceEq, Int.reduceAdd, Int.reduceSub, Int.reduceNeg, Int.reduceToNat, Nat.reduceAdd, Nat.reduceMul, Nat.reduceSub, reduceCtorEq, RC, Int.cast_ofNat_Int, hn, g0, g1, hwn.len]
    clear hwn
    refine Wp.loopN (fun n l H' => l.length = 218 ∧ get l 5 = ptr A 0 2 ∧ get l 18 = I 0 ∧ get l 19 = ptr D 0 2 ∧ get l 160 = wn ∧ get l 161 = I (ndd es es.length).length ∧ ∃ (j : Nat) (we : Value), n + j = (ndd es es.length).length ∧ get l 162 = I j ∧
      St Try.prog H2 H' (⟨we, 2, eg ((lss es).take j)⟩ :: ⟨ptr D 0 2, 0, [I N, we]⟩ :: ⟨ptr A 0 2, 0, [I N, w]⟩ :: ⟨wn, 1, nts (ndd es es.length)⟩ :: [])) (ndd es es.length).length ?_ ?_
    · repeat first | (with_reducible first | refine Wp.seq ?_ | refine Wp.reg ?_ | refine Wp.block ?_ | refine Wp.skip ?_ | refine Wp.ret ?_ | refine Wp.exit ?_ | refine Wp.label ?_ | refine Wp.condG ?_) | simp (disch := omega) only [↓RP, RQ, TS, TR, ↓reduceIte, Nat.reduceEqDiff, Nat.reduceLT, Nat.reduceLeDiff, Int.reduceLT, Int.reduceLE, Int.reduceEq, Int.reduceAdd, Int.reduceSub, Int.reduceNeg, Int.reduceToNat, Nat.reduceAdd, Nat.reduceMul, Nat.reduceSub, reduceCtorEq, RC, Int.cast_ofNat_Int, hn, g0, g1]
      exact ⟨0, _, rfl, rfl, hS⟩
    clear hS hS2 hn g0 g1
    rintro n l H' ⟨hn, g5, g18, g19, g160, g161, j, we, hj, g162, hS⟩
    repeat first | (with_reducible first | refine Wp.seq ?_ | refine Wp.reg ?_ | refine Wp.block ?_ | refine Wp.skip ?_ | refine Wp.ret ?_ | refine Wp.exit ?_ | refine Wp.label ?_ | refine Wp.condG ?_) | simp (disch := omega) only [↓RP, RQ, TS, TR, ↓reduceIte, Nat.reduceEqDiff, Nat.reduceLT, Nat.reduceLeDiff, Int.reduceLT, Int.reduceLE, Int.reduceEq, Int.reduceAdd, Int.reduceSub, Int.reduceNeg, Int.reduceToNat, Nat.reduceAdd, Nat.reduceMul, Nat.reduceSub, reduceCtorEq, RC, Int.cast_ofNat_Int, hn, g5, g18, g19, g160, g161, g162]
    refine condW_split (fun h2 => ?_) (fun h2 => ?_)
    · have hjl : j < (ndd es es.length).length := by omega
      have hwn : Sl1 H' wn (fun n : Nat => I n) (ndd es es.length) := hS.rd 3 rfl
      have hw0 : Sl2 H' w _ _ es := hS.base hE
      have hmem : (ndd es es.length).getD j 0 ∈ ndd es es.length := by
        rw [List.getD_eq_getElem?_getD, List.getElem?_eq_getElem hjl]
        exact List.getElem_mem _
      have hkl := (ndd_mem.1 hmem).1
      have hls : (lss es).getD j (0, 0) = es.getD ((ndd es es.length).getD j 0) (0, 0) := by
        unfold lss
        simp [List.getD_eq_getElem?_getD, hjl]
      have htk := take_succ_getD (lss es) j (0, 0) (by omega)
      rw [hls] at htk
      generalize hkk : (ndd es es.length).getD j 0 = k at hkl htk hls
      have f1 : decide ((k : Int) < 0) = false := decide_eq_false (by omega)
      have f2 : decide ((es.length : Int) ≤ (k : Int)) = false := decide_eq_false (by omega)
      repeat first | (with_reducible first | refine Wp.seq ?_ | refine Wp.reg ?_ | refine Wp.block ?_ | refine Wp.skip ?_ | refine Wp.ret ?_ | refine Wp.exit ?_ | refine Wp.label ?_ | refine Wp.condG ?_) | simp (disch := omega) only [↓RP, RQ, TS, TR, ↓reduceIte, Nat.reduceEqDiff, Nat.reduceLT, Nat.reduceLeDiff, Int.reduceLT, Int.reduceLE, Int.reduceEq, Int.reduceAdd, Int.reduceSub, Int.reduceNeg, Int.reduceToNat, Nat.reduceAdd, Nat.reduceMul, Nat.reduceSub, reduceCtorEq, RC, Int.cast_ofNat_Int, hn, g5, g18, g19, g160, g161, g162, hwn.idx, hwn.ld 0, hkk, hS.ld 2 rfl, hw0.len, f1, f2]
      refine Wp.drwT hmix [(1, 8)] (by kernel_rfl) (by kernel_rfl) ?_
      repeat first | (with_reducible first | refine Wp.seq ?_ | refine Wp.reg ?_ | refine Wp.block ?_ | refine Wp.skip ?_ | refine Wp.ret ?_ | refine Wp.exit ?_ | refine Wp.label ?_ | refine Wp.condG ?_) | simp (disch := omega) only [↓RP, RQ, TS, TR, ↓reduceIte, Nat.reduceEqDiff, Nat.reduceLT, Nat.reduceLeDiff, Int.reduceLT, Int.reduceLE, Int.reduceEq, Int.reduceAdd, Int.reduceSub, Int.reduceNeg, Int.reduceToNat, Nat.reduceAdd, Nat.reduceMul, Nat.reduceSub, reduceCtorEq, RC, Int.cast_ofNat_Int, hn, g5, g18, g19, g160, g161, g162, hS.ld 1 rfl, hS.ld 2 rfl, hw0.idx, hw0.ldA (0, 0)]
      refine hS.eSlice [I _, I _] tP25 tF25 rfl rfl (by simp [Value.cells]) rfl rfl (by decide) (by decide) fun x H14 hS4 => ?_
      repeat first | (with_reducible first | refine Wp.seq ?_ | refine Wp.reg ?_ | refine Wp.block ?_ | refine Wp.skip ?_ | refine Wp.ret ?_ | refine Wp.exit ?_ | refine Wp.label ?_ | refine Wp.condG ?_) | simp (disch := omega) only [↓RP, RQ, TS, TR, ↓reduceIte, Nat.reduceEqDiff, Nat.reduceLT, Nat.reduceLeDiff, Int.reduceLT, Int.reduceLE, Int.reduceEq, Int.reduceAdd, Int.reduceSub, Int.reduceNeg, Int.reduceToNat, Nat.reduceAdd, Nat.reduceMul, Nat.reduceSub, reduceCtorEq, RC, Int.cast_ofNat_Int, hn, g5, g18, g19, g160, g161, g162]
      refine hS4.eAppend 0 rfl (hS4.rd 4 rfl) tP25 (by simp only [eg_length, List.length_take, List.length_cons, List.length_nil]; omega) fun we' H15 hS5 => ?_
      have hw := (hS5.rd 0 rfl).cells
      repeat first | (with_reducible first | refine Wp.seq ?_ | refine Wp.reg ?_ | refine Wp.block ?_ | refine Wp.skip ?_ | refine Wp.ret ?_ | refine Wp.exit ?_ | refine Wp.label ?_ | refine Wp.condG ?_) | simp (disch := omega) only [↓RP, RQ, TS, TR, ↓reduceIte, Nat.reduceEqDiff, Nat.reduceLT, Nat.reduceLeDiff, Int.reduceLT, Int.reduceLE, Int.reduceEq, Int.reduceAdd, Int.reduceSub, Int.reduceNeg, Int.reduceToNat, Nat.reduceAdd, Nat.reduceMul, Nat.reduceSub, reduceCtorEq, RC, Int.cast_ofNat_Int, hn, g5, g18, g19, g160, g161, g162]
      refine hS5.eStore 1 rfl [we'] (by rw [hw.1]) (by simp [hw.2.1]) tS25 (by simp) fun H16 hS6 => ?_
      simp only [List.nil_append, List.cons_append, List.append_nil, List.set_cons_zero, List.set_cons_succ, setMany_cons, setMany_nil, Nat.zero_add, Nat.mul_one, Nat.add_zero] at hS6
      repeat first | (with_reducible first | refine Wp.seq ?_ | refine Wp.reg ?_ | refine Wp.block ?_ | refine Wp.skip ?_ | refine Wp.ret ?_ | refine Wp.exit ?_ | refine Wp.label ?_ | refine Wp.condG ?_) | simp (disch := omega) only [↓RP, RQ, TS, TR, ↓reduceIte, Nat.reduceEqDiff, Nat.reduceLT, Nat.reduceLeDiff, Int.reduceLT, Int.reduceLE, Int.reduceEq, Int.reduceAdd, Int.reduceSub, Int.reduceNeg, Int.reduceToNat, Nat.reduceAdd, Nat.reduceMul, Nat.reduceSub, reduceCtorEq, RC, Int.cast_ofNat_Int, hn, g5, g18, g19, g160, g161, g162, hS4.ld 1 rfl, wrap_fit]
      refine ⟨n - 1, by omega, j + 1, we', by omega, rfl, ?_⟩
      rw [htk, eg_append]
      exact hS6.sub (by simp)
    · have hje : j = (lss es).length := by omega
      rw [hje, List.take_length] at hS
      have hS := hS.sub (os' := ⟨we, 2, eg (lss es)⟩ :: ⟨ptr D 0 2, 0, [I N, we]⟩ :: ⟨ptr A 0 2, 0, [I N, w]⟩ :: []) (.cons_cons _ (.cons_cons _ (.cons_cons _ (List.nil_sublist _))))
      repeat first | (with_reducible first | refine Wp.seq ?_ | refine Wp.reg ?_ | refine Wp.block ?_ | refine Wp.skip ?_ | refine Wp.ret ?_ | refine Wp.exit ?_ | refine Wp.label ?_ | refine Wp.condG ?_) | simp (disch := omega) only [↓RP, RQ, TS, TR, ↓reduceIte, Nat.reduceEqDiff, Nat.reduceLT, Nat.reduceLeDiff, Int.reduceLT, Int.reduceLE, Int.reduceEq, Int.reduceAdd, Int.reduceSub, Int.reduceNeg, Int.reduceToNat, Nat.reduceAdd, Nat.reduceMul, Nat.reduceSub, reduceCtorEq, RC, Int.cast_ofNat_Int, hn, g5, g18, g19]
      refine Wp.loopN (fun n l H' => l.length = 218 ∧ get l 5 = ptr A 0 2 ∧ get l 18 = I 0 ∧ get l 19 = ptr D 0 2 ∧ ∃ k : Nat, n + k = N ∧ get l 22 = I k ∧
        St Try.prog H2 H' (⟨we, 2, eg (lss es)⟩ :: ⟨ptr D 0 2, 0, [I N, we]⟩ :: ⟨ptr A 0 2, 0, [I N, w]⟩ :: [])) N ?_ ?_
      · repeat first | (with_reducible first | refine Wp.seq ?_ | refine Wp.reg ?_ | refine Wp.block ?_ | refine Wp.skip ?_ | refine Wp.ret ?_ | refine Wp.exit ?_ | refine Wp.label ?_ | refine Wp.condG ?_) | simp (disch := omega) only [↓RP, RQ, TS, TR, ↓reduceIte, Nat.reduceEqDiff, Nat.reduceLT, Nat.reduceLeDiff, Int.reduceLT, Int.reduceLE, Int.reduceEq, Int.reduceAdd, Int.reduceSub, Int.reduceNeg, Int.reduceToNat, Nat.reduceAdd, Nat.reduceMul, Nat.reduceSub, reduceCtorEq, RC, Int.cast_ofNat_Int, hn, g5, g18, g19]
        exact ⟨0, rfl, rfl, hS⟩
      clear hS hn g5 g18 g19 g160 g161 g162 h2
      rintro n l H' ⟨hn, g5, g18, g19, k, hk, g22, hS⟩
      repeat first | (with_reducible first | refine Wp.seq ?_ | refine Wp.reg ?_ | refine Wp.block ?_ | refine Wp.skip ?_ | refine Wp.ret ?_ | refine Wp.exit ?_ | refine Wp.label ?_ | refine Wp.condG ?_) | simp (disch := omega) only [↓RP, RQ, TS, TR, ↓reduceIte, Nat.reduceEqDiff, Nat.reduceLT, Nat.reduceLeDiff, Int.reduceLT, Int.reduceLE, Int.reduceEq, Int.reduceAdd, Int.reduceSub, Int.reduceNeg, Int.reduceToNat, Nat.reduceAdd, Nat.reduceMul, Nat.reduceSub, reduceCtorEq, RC, Int.cast_ofNat_Int, hn, g5, g18, g19, g22, hS.ld 2 rfl]
      refine condW_split (fun h2 => ?_) (fun h2 => ?_)
      · have hkN : k < N := by omega
        repeat first | (with_reducible first | refine Wp.seq ?_ | refine Wp.reg ?_ | refine Wp.block ?_ | refine Wp.skip ?_ | refine Wp.ret ?_ | refine Wp.exit ?_ | refine Wp.label ?_ | refine Wp.condG ?_) | simp (disch := omega) only [↓RP, RQ, TS, TR, ↓reduceIte, Nat.reduceEqDiff, Nat.reduceLT, Nat.reduceLeDiff, Int.reduceLT, Int.reduceLE, Int.reduceEq, Int.reduceAdd, Int.reduceSub, Int.reduceNeg, Int.reduceToNat, Nat.reduceAdd, Nat.reduceMul, Nat.reduceSub, reduceCtorEq, RC, Int.cast_ofNat_Int, hn, g5, g18, g19, g22, hS.ldA 2 rfl]
        refine callFW_of (reach_ok N w es (hS.base hE) (by omega) (by omega) hval k hkN) ?_
        rintro r H14 ⟨d1, wr1, rfl, hd1, hS2⟩
        have hS := hS.trans hS2
        simp only [List.nil_append, List.cons_append, List.append_nil, List.set_cons_zero, List.set_cons_succ, setMany_cons, setMany_nil, Nat.zero_add, Nat.mul_one, Nat.add_zero] at hS
        repeat first | (with_reducible first | refine Wp.seq ?_ | refine Wp.reg ?_ | refine Wp.block ?_ | refine Wp.skip ?_ | refine Wp.ret ?_ | refine Wp.exit ?_ | refine Wp.label ?_ | refine Wp.condG ?_) | simp (disch := omega) only [↓RP, RQ, TS, TR, ↓reduceIte, Nat.reduceEqDiff, Nat.reduceLT, Nat.reduceLeDiff, Int.reduceLT, Int.reduceLE, Int.reduceEq, Int.reduceAdd, Int.reduceSub, Int.reduceNeg, Int.reduceToNat, Nat.reduceAdd, Nat.reduceMul, Nat.reduceSub, reduceCtorEq, RC, Int.cast_ofNat_Int, hn, g5, g18, g19, g22, hS.ldA 1 rfl]
        refine callFW_of (reach_ok N we (lss es) (hS.rd 0 rfl) (by omega) (by omega) hlsv k hkN) ?_
        rintro r H15 ⟨d2, wr2, rfl, hd2, hS2⟩
        have hS := hS.trans hS2
        simp only [List.nil_append, List.cons_append, List.append_nil, List.set_cons_zero, List.set_cons_succ, setMany_cons, setMany_nil, Nat.zero_add, Nat.mul_one, Nat.add_zero] at hS
        have heq : (List.range N).filter (fun x => decide (0 ≤ d1.getD x 0)) = (List.range N).filter (fun x => decide (0 ≤ d2.getD x 0)) := by
          apply List.filter_congr
          intro x hx
          have hx := List.mem_range.1 hx
          rw [Bool.eq_iff_iff, decide_eq_true_eq, decide_eq_true_eq, IsD.iff hd1 hx, IsD.iff hd2 hx]
          constructor
          · rintro ⟨m, hm⟩
            exact lss_reach (N := N) (fun m a b hb hw => by
              have := hT1.short m a b (nodup_all hT1.nodup hT1.lt ho1 b hb) hw
              omega) hval hm
          · rintro ⟨m, hm⟩
            exact ⟨m, W.mono (fun e he => lss_mem he) hm⟩
        have h1 : Sl1 H15 wr1 (fun n : Nat => I n) ((List.range N).filter fun x => decide (0 ≤ d1.getD x 0)) := hS.rd 3 rfl
        have h3 : Sl1 H15 wr2 (fun n : Nat => I n) ((List.range N).filter fun x => decide (0 ≤ d2.getD x 0)) := hS.rd 4 rfl
        rw [← heq] at h3
        have hfl : ((List.range N).filter fun x => decide (0 ≤ d1.getD x 0)).length ≤ N := by
          refine Nat.le_trans (List.length_filter_le _ _) ?_
          simp
        generalize (List.range N).filter (fun x => decide (0 ≤ d1.getD x 0)) = fl at h1 h3 hfl
        repeat first | (with_reducible first | refine Wp.seq ?_ | refine Wp.reg ?_ | refine Wp.block ?_ | refine Wp.skip ?_ | refine Wp.ret ?_ | refine Wp.exit ?_ | refine Wp.label ?_ | refine Wp.condG ?_) | simp (disch := omega) only [↓RP, RQ, TS, TR, ↓reduceIte, Nat.reduceEqDiff, Nat.reduceLT, Nat.reduceLeDiff, Int.reduceLT, Int.reduceLE, Int.reduceEq, Int.reduceAdd, Int.reduceSub, Int.reduceNeg, Int.reduceToNat, Nat.reduceAdd, Nat.reduceMul, Nat.reduceSub, reduceCtorEq, RC, Int.cast_ofNat_Int, hn, g5, g18, g19, g22]
        refine callFW_of (same_ok wr1 wr2 (fl.map Nat.cast) (fl.map Nat.cast) ?_ ?_ (by rw [List.length_map]; omega)) ?_
        · unfold Sl1
          rw [List.map_map]
          exact h1
        · unfold Sl1
          rw [List.map_map]
          exact h3
        rintro r H16 ⟨rfl, rfl⟩
        rw [decide_eq_true rfl]
        repeat first | (with_reducible first | refine Wp.seq ?_ | refine Wp.reg ?_ | refine Wp.block ?_ | refine Wp.skip ?_ | refine Wp.ret ?_ | refine Wp.exit ?_ | refine Wp.label ?_ | refine Wp.condG ?_) | simp (disch := omega) only [↓RP, RQ, TS, TR, ↓reduceIte, Nat.reduceEqDiff, Nat.reduceLT, Nat.reduceLeDiff, Int.reduceLT, Int.reduceLE, Int.reduceEq, Int.reduceAdd, Int.reduceSub, Int.reduceNeg, Int.reduceToNat, Nat.reduceAdd, Nat.reduceMul, Nat.reduceSub, reduceCtorEq, RC, Int.cast_ofNat_Int, hn, g5, g18, g19, g22, wrap_fit]
        exact ⟨n - 1, by omega, k + 1, by omega, rfl, hS.sub (.cons_cons _ (.cons_cons _ (.cons_cons _ (List.nil_sublist _))))⟩
      · repeat first | (with_reducible first | refine Wp.seq ?_ | refine Wp.reg ?_ | refine Wp.block ?_ | refine Wp.skip ?_ | refine Wp.ret ?_ | refine Wp.exit ?_ | refine Wp.label ?_ | refine Wp.condG ?_) | simp (disch := omega) only [↓RP, RQ, TS, TR, ↓reduceIte, Nat.reduceEqDiff, Nat.reduceLT, Nat.reduceLeDiff, Int.reduceLT, Int.reduceLE, Int.reduceEq, Int.reduceAdd, Int.reduceSub, Int.reduceNeg, Int.reduceToNat, Nat.reduceAdd, Nat.reduceMul, Nat.reduceSub, reduceCtorEq, RC, Int.cast_ofNat_Int, hn, g5, g18, g19, g22]
  · have hS := hS.trans hS2
    simp only [List.nil_append, List.cons_append, List.append_nil, List.set_cons_zero, List.set_cons_succ, setMany_cons, setMany_nil, Nat.zero_add, Nat.mul_one, Nat.add_zero] at hS
    repeat first | (with_reducible first | refine Wp.seq ?_ | refine Wp.reg ?_ | refine Wp.block ?_ | refine Wp.skip ?_ | refine Wp.ret ?_ | refine Wp.exit ?_ | refine Wp.label ?_ | refine Wp.condG ?_) | simp (disch := omega) only [↓RP, RQ, TS, TR, ↓reduceIte, Nat.reduceEqDiff, Nat.reduceLT, Nat.reduceLeDiff, Int.reduceLT, Int.reduceLE, Int.reduceEq, Int.reduceAdd, Int.reduceSub, Int.reduceNeg, Int.reduceToNat, Nat.reduceAdd, Nat.reduceMul, Nat.reduceSub, reduceCtorEq, RC, Int.cast_ofNat_Int, hn, g0, g1, hS.ldA 0 rfl]
    refine callFW_of (cycle_ok N w es (hS.base hE) (by omega) (by omega) hval) ?_
    rintro r H10 ⟨c, wc, hMc, hcN, rfl, hS2⟩
    have hcy : ∃ n x, W es (n + 1) x x := by
      apply Classical.byContradiction
      intro hcy
      obtain ⟨i, hi, hr, _⟩ := Top.more hval (fun n a hw => hcy ⟨n, a, hw⟩) hlt
      exact hst i hi hr
    have hc0 : 0 < c.length := (hfi c hMc).1.2 hcy
    obtain ⟨x0, hCh⟩ := (hfi c hMc).2 hc0
    rw [decide_eq_true hc0]
    have hS := (hS.sub (os' := [⟨ptr A 0 2, 0, [I N, w]⟩]) (.cons_cons _ (List.nil_sublist _))).trans hS2
    simp only [List.nil_append, List.cons_append, List.append_nil, List.set_cons_zero, List.set_cons_succ, setMany_cons, setMany_nil, Nat.zero_add, Nat.mul_one, Nat.add_zero] at hS
    have hwc : Sl1 H10 wc (fun n : Nat => I n) c := hS.rd 1 rfl
    have hw0 : Sl2 H10 w _ _ es := hS.base hE
    repeat first | (with_reducible first | refine Wp.seq ?_ | refine Wp.reg ?_ | refine Wp.block ?_ | refine Wp.skip ?_ | refine Wp.ret ?_ | refine Wp.exit ?_ | refine Wp.label ?_ | refine Wp.condG ?_) | simp (disch := omega) only [↓RP, RQ, TS, TR, ↓reduceIte, Nat.reduceEqDiff, Nat.reduceLT, Nat.reduceLeDiff, Int.reduceLT, Int.reduceLE, Int.reduceEq, Int.reduceAdd, Int.reduceSub, Int.reduceNeg, Int.reduceToNat, Nat.reduceAdd, Nat.reduceMul, Nat.reduceSub, reduceCtorEq, RC, Int.cast_ofNat_Int, hn, g0, g1]
    refine binW_neqb (by simp (disch := omega) only [↓RP, RQ, TS, TR, ↓reduceIte, Nat.reduceEqDiff, Nat.reduceLT, Nat.reduceLeDiff, Int.reduceLT, Int.reduceLE, Int.reduceEq, Int.reduceAdd, Int.reduceSub, Int.reduceNeg, Int.reduceToNat, Nat.reduceAdd, Nat.reduceMul, Nat.reduceSub, reduceCtorEq, RC, Int.cast_ofNat_Int, hn]) (by simp (disch := omega) only [↓RP, RQ, TS, TR, ↓reduceIte, Nat.reduceEqDiff, Nat.reduceLT, Nat.reduceLeDiff, Int.reduceLT, Int.reduceLE, Int.reduceEq, Int.reduceAdd, Int.reduceSub, Int.reduceNeg, Int.reduceToNat, Nat.reduceAdd, Nat.reduceMul, Nat.reduceSub, reduceCtorEq, RC, Int.cast_ofNat_Int, hn]) ?_
    rw [show (true != true) = false from rfl]
    repeat first | (with_reducible first | refine Wp.seq ?_ | refine Wp.reg ?_ | refine Wp.block ?_ | refine Wp.skip ?_ | refine Wp.ret ?_ | refine Wp.exit ?_ | refine Wp.label ?_ | refine Wp.condG ?_) | simp (disch := omega) only [↓RP, RQ, TS, TR, ↓reduceIte, Nat.reduceEqDiff, Nat.reduceLT, Nat.reduceLeDiff, Int.reduceLT, Int.reduceLE, Int.reduceEq, Int.reduceAdd, Int.reduceSub, Int.reduceNeg, Int.reduceToNat, Nat.reduceAdd, Nat.reduceMul, Nat.reduceSub, reduceCtorEq, RC, Int.cast_ofNat_Int, hn, g0, g1]
    refine Wp.loopN (fun n l H' => H' = H10 ∧ l.length = 218 ∧ get l 5 = ptr A 0 2 ∧ get l 12 = wc ∧ ∃ k : Nat, n + k = c.length ∧ get l 15 = I k) c.length ?_ ?_
    · repeat first | (with_reducible first | refine Wp.seq ?_ | refine Wp.reg ?_ | refine Wp.block ?_ | refine Wp.skip ?_ | refine Wp.ret ?_ | refine Wp.exit ?_ | refine Wp.label ?_ | refine Wp.condG ?_) | simp (disch := omega) only [↓RP, RQ, TS, TR, ↓reduceIte, Nat.reduceEqDiff, Nat.reduceLT, Nat.reduceLeDiff, Int.reduceLT, Int.reduceLE, Int.reduceEq, Int.reduceAdd, Int.reduceSub, Int.reduceNeg, Int.reduceToNat, Nat.reduceAdd, Nat.reduceMul, Nat.reduceSub, reduceCtorEq, RC, Int.cast_ofNat_Int, hn, g0, g1]
      exact ⟨0, rfl, rfl⟩
    clear hn g0 g1
    rintro n l H' ⟨rfl, hn, g5, g12, k, hk, g15⟩
    repeat first | (with_reducible first | refine Wp.seq ?_ | refine Wp.reg ?_ | refine Wp.block ?_ | refine Wp.skip ?_ | refine Wp.ret ?_ | refine Wp.exit ?_ | refine Wp.label ?_ | refine Wp.condG ?_) | simp (disch := omega) only [↓RP, RQ, TS, TR, ↓reduceIte, Nat.reduceEqDiff, Nat.reduceLT, Nat.reduceLeDiff, Int.reduceLT, Int.reduceLE, Int.reduceEq, Int.reduceAdd, Int.reduceSub, Int.reduceNeg, Int.reduceToNat, Nat.reduceAdd, Nat.reduceMul, Nat.reduceSub, reduceCtorEq, RC, Int.cast_ofNat_Int, hn, g5, g12, g15, hwc.len]
    refine condW_split (fun h2 => ?_) (fun h2 => ?_)
    · have hkl : k < c.length := by omega
      have hnx := cyc_next hCh hkl
      have hmod : Int.tmod ((k : Int) + 1) (c.length : Int) = (((k + 1) % c.length : Nat) : Int) := by
        rw [← tmod_nat]; rfl
      have hml : (k + 1) % c.length < c.length := Nat.mod_lt _ hc0
      repeat first | (with_reducible first | refine Wp.seq ?_ | refine Wp.reg ?_ | refine Wp.block ?_ | refine Wp.skip ?_ | refine Wp.ret ?_ | refine Wp.exit ?_ | refine Wp.label ?_ | refine Wp.condG ?_) | simp (disch := omega) only [↓RP, RQ, TS, TR, ↓reduceIte, Nat.reduceEqDiff, Nat.reduceLT, Nat.reduceLeDiff, Int.reduceLT, Int.reduceLE, Int.reduceEq, Int.reduceAdd, Int.reduceSub, Int.reduceNeg, Int.reduceToNat, Nat.reduceAdd, Nat.reduceMul, Nat.reduceSub, reduceCtorEq, RC, Int.cast_ofNat_Int, hn, g5, g12, g15, hwc.len, wrap_fit, hmod, hwc.idx, hwc.ld 0]
      generalize (k + 1) % c.length = q at hnx hml
      have f1 : decide ((c.getD k 0 : Int) < 0) = false := decide_eq_false (by omega)
      have f2 : decide ((es.length : Int) ≤ (c.getD k 0 : Int)) = false := decide_eq_false (by omega)
      have f3 : decide ((c.getD q 0 : Int) < 0) = false := decide_eq_false (by omega)
      have f4 : decide ((es.length : Int) ≤ (c.getD q 0 : Int)) = false := decide_eq_false (by omega)
      have f5 : decide (¬ ((es.getD (c.getD k 0) (0, 0)).2 : Int) = ((es.getD (c.getD q 0) (0, 0)).1 : Int)) = false := decide_eq_false (by omega)
      repeat first | (with_reducible first | refine Wp.seq ?_ | refine Wp.reg ?_ | refine Wp.block ?_ | refine Wp.skip ?_ | refine Wp.ret ?_ | refine Wp.exit ?_ | refine Wp.label ?_ | refine Wp.condG ?_) | with_reducible refine Wp.drw hmix (by kernel_rfl) ?_ | simp (disch := omega) only [↓RP, RQ, TS, TR, ↓reduceIte, Nat.reduceEqDiff, Nat.reduceLT, Nat.reduceLeDiff, Int.reduceLT, Int.reduceLE, Int.reduceEq, Int.reduceAdd, Int.reduceSub, Int.reduceNeg, Int.reduceToNat, Nat.reduceAdd, Nat.reduceMul, Nat.reduceSub, reduceCtorEq, RC, Int.cast_ofNat_Int, hn, g5, g12, g15, hwc.len, hwc.idx, hwc.ld 0, hS.ld 0 rfl, hw0.len, hw0.idx, hw0.fld, hw0.ld0 (0, 0), hw0.ld1 (0, 0), f1, f2, f3, f4, f5, wrap_fit]
      exact ⟨n - 1, by omega, k + 1, by omega, rfl⟩
    · have e1 : decide ((0 : Int) < (c.length : Int)) = true := decide_eq_true (by omega)
      repeat first | (with_reducible first | refine Wp.seq ?_ | refine Wp.reg ?_ | refine Wp.block ?_ | refine Wp.skip ?_ | refine Wp.ret ?_ | refine Wp.exit ?_ | refine Wp.label ?_ | refine Wp.condG ?_) | simp (disch := omega) only [↓RP, RQ, TS, TR, ↓reduceIte, Nat.reduceEqDiff, Nat.reduceLT, Nat.reduceLeDiff, Int.reduceLT, Int.reduceLE, Int.reduceEq, Int.reduceAdd, Int.reduceSub, Int.reduceNeg, Int.reduceToNat, Nat.reduceAdd, Nat.reduceMul, Nat.reduceSub, reduceCtorEq, RC, Int.cast_ofNat_Int, hn, g5, g12, g15, hwc.len, e1]
end Go.Ds
/-
  A described graph's links, as they come in.
-/
namespace Go.Ds
open Go.Proofs Go.ChangeShapes Go.WideShapes Go.RowKit

def numN (v : Value) : Nat := match v with | .int _ n => n.toNat | _ => 0

theorem cell_at {w : World} {b off j : Nat} {v : Value} {cur : Array Value} {t : TypeId} {fr : Nat × Nat} (hb : w.heap[b]? = some (.cells cur t fr)) (h : w.cell? ((⟨b, off, none⟩ : Addr).add j) = some v) : cur[off + j]? = some v := by
  have e : (⟨b, off, none⟩ : Addr).add j = ⟨b, off + j, none⟩ := by
    unfold Addr.add
    split
    · rename_i h0; subst h0; rfl
    · rfl
  rw [e] at h
  simp only [World.cell?, hb] at h
  simpa using h

theorem u8_of {H : Type} {enc : TypeId × Value → H} {w : World} {base : Nat} {spare : Nat → Bool} {held : Bool} {n : Nat} {v : Value} {x : DataW H × List MemPlace} (h : DataW.trod enc Try.prog w base spare held n 5 [v] = some x) : v = U (numN v) ∧ numN v < 256 := by
  obtain ⟨m, hv, _, hw⟩ := DataW.trod_int Try.underlying5 h
  have hv : v = .int .u8 m := by simpa using hv
  subst hv
  have hm : 0 ≤ m ∧ m ≤ 255 := by simpa [Lit.wf, IntKind.min, IntKind.max, IntKind.signed, IntKind.bits] using hw
  simp only [numN]
  refine ⟨?_, by omega⟩
  rw [Int.toNat_of_nonneg hm.1]

theorem flat2_get {α : Type} (f g : α → Value) (xs : List α) (j : Nat) (hj : j < xs.length) (d : α) : (xs.flatMap fun x => [f x, g x])[j * 2]? = some (f (xs.getD j d)) ∧ (xs.flatMap fun x => [f x, g x])[j * 2 + 1]? = some (g (xs.getD j d)) := by
  have := Sl2.drop (f := f) (g := g) j hj d
  constructor
  · have h2 : ((xs.flatMap fun x => [f x, g x]).drop (j * 2))[0]? = some (f (xs.getD j d)) := by rw [this]; rfl
    rwa [List.getElem?_drop] at h2
  · have h2 : ((xs.flatMap fun x => [f x, g x]).drop (j * 2))[1]? = some (g (xs.getD j d)) := by rw [this]; rfl
    rwa [List.getElem?_drop] at h2

theorem ce60 : Try.prog.cellsOf 60 = 2 := by kernel_rfl
theorem ce5 : Try.prog.cellsOf 5 = 1 := by kernel_rfl
set_option maxRecDepth 100000 in
theorem links_in {H : Type} {enc : TypeId × Value → H} {W : World} {base b0 : Nat} {v0 : Value} {d0 : DataW H} {p0 : List MemPlace} (h0 : DataW.Trod enc Try.prog W base (fun _ => true) true 22 v0 d0 p0) (hval : Value.okWide Try.prog W .any b0 22 v0) :
    ∃ (ρ : Rho) (H : Heap) (v : Value) (ls : List (Nat × Nat)), HRel Try.prog ρ H W ∧ Shut ρ H ∧ V ρ v v0 ∧ Lk H v ls ∧ ∀ x ∈ ls, x.1 < 256 ∧ x.2 < 256 := by
  obtain ⟨a0, len, cap, rfl⟩ := okWide_slice Try.underlying22 hval
  obtain ⟨fuel, hf⟩ := h0
  rcases Go.Deep.open_slice_pairs Try.underlying22 Try.underlying60 ce60 rfl rfl ce5 ce5 hf with ⟨hcs, _⟩ | ⟨a, len', cap', m, n, V0, V1, D0, D1, P0, P1, hcs, _, hl, _, hmm, _, hcell⟩
  · simp [Value.cells] at hcs
    obtain ⟨rfl, rfl, rfl⟩ := hcs
    exact ⟨_, _, .slice none 0 0, [], .none W, .none, .of_flat rfl, .inl ⟨rfl, rfl⟩, by simp⟩
  · simp [Value.cells] at hcs
    obtain ⟨h1, h2, h3⟩ := hcs
    subst h1
    simp only [if_true] at hmm
    rw [← h2, ← h3] at hl
    rw [← h3] at hmm
    rw [hmm] at hcell
    clear h2 h3 hmm
    simp only [Value.okWide, Try.underlying22, Cell.okWide, Cell.ok] at hval
    obtain ⟨_, _, _, hspot, row, cells, hshape, _⟩ := hval
    obtain ⟨b, off, spot⟩ := a
    simp only at hspot hshape
    subst hspot
    unfold World.shape? at hshape
    split at hshape
    case h_2 => cases hshape
    rename_i cur t' fr hb
    have hc0 : ∀ i, i < cap → cur[off + i * 2]? = some (V0 i) := fun i hi => cell_at hb (hcell i hi).1
    have hc1 : ∀ i, i < cap → cur[off + (i * 2 + 1)]? = some (V1 i) := fun i hi => cell_at hb (hcell i hi).2.1
    have hu0 : ∀ i, i < cap → V0 i = U (numN (V0 i)) ∧ numN (V0 i) < 256 := fun i hi => u8_of (hcell i hi).2.2.1
    have hu1 : ∀ i, i < cap → V1 i = U (numN (V1 i)) ∧ numN (V1 i) < 256 := fun i hi => u8_of (hcell i hi).2.2.2
    let ls : List (Nat × Nat) := (List.range len).map fun i => (numN (V0 i), numN (V1 i))
    have hll : ls.length = len := by simp [ls]
    have hlg : ∀ i, i < len → ls.getD i (0, 0) = (numN (V0 i), numN (V1 i)) := fun i hi => by simp [ls, List.getD_eq_getElem?_getD, hi]
    have hsz : cap = 0 ∨ off + cap * 2 ≤ cur.size := by
      by_cases h0 : cap = 0
      · exact .inl h0
      · right
        have := (Array.getElem?_eq_some_iff.1 (hc1 (cap - 1) (by omega))).1
        omega
    obtain ⟨ρ, H', v, h1, h2, h3, h4⟩ := HRel.input (P := Try.prog) hb tS60 hl hsz (ls.flatMap fun e => [U e.1, U e.2]) (by rw [flat2_length, hll]) (by
      intro i hi
      rw [flat2_length, hll] at hi
      have hj : i / 2 < len := by omega
      have hg := flat2_get (fun e : Nat × Nat => U e.1) (fun e => U e.2) ls (i / 2) (by rw [hll]; exact hj) (0, 0)
      rw [hlg _ hj] at hg
      by_cases hp : i % 2 = 0
      · have e : i = i / 2 * 2 := by omega
        rw [e, hg.1, hc0 _ (by omega)]
        exact congrArg some (hu0 _ (by omega)).1
      · have e : i = i / 2 * 2 + 1 := by omega
        rw [e, hg.2, hc1 _ (by omega)]
        exact congrArg some (hu1 _ (by omega)).1) (by
      intro c hc
      obtain ⟨x, _, hx⟩ := List.mem_flatMap.1 hc
      simp only [List.mem_cons, List.not_mem_nil, or_false] at hx
      rcases hx with rfl | rfl <;> rfl)
    refine ⟨ρ, H', v, ls, h1, h2, h3, h4, ?_⟩
    intro x hx
    obtain ⟨i, hi, rfl⟩ := List.mem_map.1 hx
    have := List.mem_range.1 hi
    exact ⟨(hu0 i (by omega)).2, (hu1 i (by omega)).2⟩

theorem u8_in {w : Int} (h : (Lit.int .u8 w).wf = true) : ∃ n : Nat, n < 256 ∧ w = n := by
  have hm : 0 ≤ w ∧ w ≤ 255 := by simpa [Lit.wf, IntKind.min, IntKind.max, IntKind.signed, IntKind.bits] using h
  exact ⟨w.toNat, by omega, by omega⟩
end Go.Ds
