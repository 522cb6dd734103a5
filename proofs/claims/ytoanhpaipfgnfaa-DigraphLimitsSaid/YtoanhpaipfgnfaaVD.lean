/-
  Contracts: Index, Order.
-/
import Derived.Test.YtoanhpaipfgnfaaVC
import Derived.Test.YtoanhpaipfgnfaaVB
import Derived.Below
import Derived.ProofKit
import Derived.Deep.SlicePairs
set_option linter.unusedVariables false
set_option linter.unusedSimpArgs false
namespace Go.Ds
open Go.Proofs Go.Plain
variable {H : Heap}

theorem index_ok (v : Value) (x : Int) (xs : List Int) (hv : Sl1 H v (.int .i64) xs) (hx : xs.length < 1000000) :
    Fn Try.prog 40 [v, I x] H fun r H' => H' = H ∧ ((∃ i : Nat, i < xs.length ∧ r = I i ∧ xs.getD i 0 = x ∧ ∀ j, j < i → xs.getD j 0 ≠ x) ∨ (r = I (-1) ∧ ∀ j, j < xs.length → xs.getD j 0 ≠ x)) := by
  refine Fn.of_wp (fn := Try.f40) rfl rfl (by kernel_rfl) fun l hl => ?_
  have hn : l.length = 19 := by rw [hl]; rfl
  have g0 : get l 0 = v := by rw [hl]; rfl
  have g1 : get l 1 = I x := by rw [hl]; rfl
  clear hl
  repeat first | (with_reducible first | refine Wp.seq ?_ | refine Wp.reg ?_ | refine Wp.block ?_ | refine Wp.skip ?_ | refine Wp.ret ?_ | refine Wp.exit ?_ | refine Wp.label ?_ | refine Wp.condG ?_) | simp (disch := omega) only [↓RP, RQ, TS, TR, ↓reduceIte, Nat.reduceEqDiff, Nat.reduceLT, Nat.reduceLeDiff, Int.reduceLT, Int.reduceLE, Int.reduceEq, Int.reduceAdd, Int.reduceSub, Int.reduceNeg, Int.reduceToNat, Nat.reduceAdd, Nat.reduceMul, Nat.reduceSub, reduceCtorEq, RC, Int.cast_ofNat_Int, hn, g0, g1, hv.len]
  refine Wp.loopN (fun n l H' => H' = H ∧ l.length = 19 ∧ get l 0 = v ∧ get l 1 = I x ∧ get l 7 = I xs.length ∧ ∃ i : Nat, n + i = xs.length ∧ get l 8 = I i ∧ ∀ j, j < i → xs.getD j 0 ≠ x) xs.length ?_ ?_
  · repeat first | (with_reducible first | refine Wp.seq ?_ | refine Wp.reg ?_ | refine Wp.block ?_ | refine Wp.skip ?_ | refine Wp.ret ?_ | refine Wp.exit ?_ | refine Wp.label ?_ | refine Wp.condG ?_) | simp (disch := omega) only [↓RP, RQ, TS, TR, ↓reduceIte, Nat.reduceEqDiff, Nat.reduceLT, Nat.reduceLeDiff, Int.reduceLT, Int.reduceLE, Int.reduceEq, Int.reduceAdd, Int.reduceSub, Int.reduceNeg, Int.reduceToNat, Nat.reduceAdd, Nat.reduceMul, Nat.reduceSub, reduceCtorEq, RC, Int.cast_ofNat_Int, hn, g0, g1]
    exact ⟨0, rfl, rfl, fun j hj => absurd hj (Nat.not_lt_zero _)⟩
  clear hn g0 g1
  rintro n l H' ⟨rfl, hn, g0, g1, g7, i, hi, g8, hs⟩
  repeat first | (with_reducible first | refine Wp.seq ?_ | refine Wp.reg ?_ | refine Wp.block ?_ | refine Wp.skip ?_ | refine Wp.ret ?_ | refine Wp.exit ?_ | refine Wp.label ?_ | refine Wp.condG ?_) | simp (disch := omega) only [↓RP, RQ, TS, TR, ↓reduceIte, Nat.reduceEqDiff, Nat.reduceLT, Nat.reduceLeDiff, Int.reduceLT, Int.reduceLE, Int.reduceEq, Int.reduceAdd, Int.reduceSub, Int.reduceNeg, Int.reduceToNat, Nat.reduceAdd, Nat.reduceMul, Nat.reduceSub, reduceCtorEq, RC, Int.cast_ofNat_Int, hn, g0, g1, g7, g8]
  refine condW_split (fun h3 => ?_) (fun h3 => ?_)
  · repeat first | (with_reducible first | refine Wp.seq ?_ | refine Wp.reg ?_ | refine Wp.block ?_ | refine Wp.skip ?_ | refine Wp.ret ?_ | refine Wp.exit ?_ | refine Wp.label ?_ | refine Wp.condG ?_) | simp (disch := omega) only [↓RP, RQ, TS, TR, ↓reduceIte, Nat.reduceEqDiff, Nat.reduceLT, Nat.reduceLeDiff, Int.reduceLT, Int.reduceLE, Int.reduceEq, Int.reduceAdd, Int.reduceSub, Int.reduceNeg, Int.reduceToNat, Nat.reduceAdd, Nat.reduceMul, Nat.reduceSub, reduceCtorEq, RC, Int.cast_ofNat_Int, hn, g0, g1, g7, g8, hv.idx, hv.ld 0]
    refine condW_split (fun h4 => ?_) (fun h4 => ?_)
    · repeat first | (with_reducible first | refine Wp.seq ?_ | refine Wp.reg ?_ | refine Wp.block ?_ | refine Wp.skip ?_ | refine Wp.ret ?_ | refine Wp.exit ?_ | refine Wp.label ?_ | refine Wp.condG ?_) | simp (disch := omega) only [↓RP, RQ, TS, TR, ↓reduceIte, Nat.reduceEqDiff, Nat.reduceLT, Nat.reduceLeDiff, Int.reduceLT, Int.reduceLE, Int.reduceEq, Int.reduceAdd, Int.reduceSub, Int.reduceNeg, Int.reduceToNat, Nat.reduceAdd, Nat.reduceMul, Nat.reduceSub, reduceCtorEq, RC, Int.cast_ofNat_Int, hn, g0, g1, g7, g8]
      exact .inl ⟨i, by omega, rfl, h4.symm, hs⟩
    · repeat first | (with_reducible first | refine Wp.seq ?_ | refine Wp.reg ?_ | refine Wp.block ?_ | refine Wp.skip ?_ | refine Wp.ret ?_ | refine Wp.exit ?_ | refine Wp.label ?_ | refine Wp.condG ?_) | simp (disch := omega) only [↓RP, RQ, TS, TR, ↓reduceIte, Nat.reduceEqDiff, Nat.reduceLT, Nat.reduceLeDiff, Int.reduceLT, Int.reduceLE, Int.reduceEq, Int.reduceAdd, Int.reduceSub, Int.reduceNeg, Int.reduceToNat, Nat.reduceAdd, Nat.reduceMul, Nat.reduceSub, reduceCtorEq, RC, Int.cast_ofNat_Int, hn, g0, g1, g7, g8, wrap_fit]
      refine ⟨n - 1, by omega, i + 1, by omega, rfl, fun j hj => ?_⟩
      by_cases e : j = i
      · subst e; exact fun hh => h4 hh.symm
      · exact hs j (by omega)
  · repeat first | (with_reducible first | refine Wp.seq ?_ | refine Wp.reg ?_ | refine Wp.block ?_ | refine Wp.skip ?_ | refine Wp.ret ?_ | refine Wp.exit ?_ | refine Wp.label ?_ | refine Wp.condG ?_) | simp (disch := omega) only [↓RP, RQ, TS, TR, ↓reduceIte, Nat.reduceEqDiff, Nat.reduceLT, Nat.reduceLeDiff, Int.reduceLT, Int.reduceLE, Int.reduceEq, Int.reduceAdd, Int.reduceSub, Int.reduceNeg, Int.reduceToNat, Nat.reduceAdd, Nat.reduceMul, Nat.reduceSub, reduceCtorEq, RC, Int.cast_ofNat_Int, hn, g0, g1, g7, g8]
    exact .inr fun j hj => hs j (by omega)

/-- How many edges lead to a node from what has not come. -/
def cA (es : List (Nat × Nat)) (out : List Nat) (k : Nat) : Nat := es.countP fun e => decide (e.2 = k ∧ e.1 ∉ out)
/-- How many lead from a node to a node. -/
def cC (es : List (Nat × Nat)) (n k : Nat) : Nat := es.countP fun e => decide (e.1 = n ∧ e.2 = k)

theorem cA_split (n k : Nat) (out : List Nat) (hn : n ∉ out) : ∀ es : List (Nat × Nat), cA es out k = cA es (out ++ [n]) k + cC es n k
  | [] => rfl
  | e :: es => by
    have ih := cA_split n k out hn es
    unfold cA cC at ih ⊢
    have hp : (if decide (e.2 = k ∧ e.1 ∉ out) = true then 1 else 0) = (if decide (e.2 = k ∧ e.1 ∉ out ++ [n]) = true then 1 else 0) + (if decide (e.1 = n ∧ e.2 = k) = true then 1 else 0) := by
      by_cases h1 : e.2 = k
      · by_cases h2 : e.1 ∈ out
        · have h3 : e.1 ≠ n := fun hh => hn (by rw [← hh]; exact h2)
          simp [h1, h2, h3]
        · by_cases h3 : e.1 = n
          · simp [h1, h3, hn]
          · simp [h1, h2, h3]
      · simp [h1]
    simp only [List.countP_cons]
    omega

theorem cA_zero {es : List (Nat × Nat)} {out : List Nat} {k : Nat} : cA es out k = 0 ↔ ∀ e ∈ es, e.2 = k → e.1 ∈ out := by
  unfold cA
  rw [List.countP_eq_zero]
  constructor
  · intro h e he h2
    have := h e he
    simp only [decide_eq_true_eq] at this
    exact Classical.byContradiction fun hh => this ⟨h2, hh⟩
  · intro h e he
    simp only [decide_eq_true_eq]
    rintro ⟨h2, h3⟩
    exact h3 (h e he h2)

/-- The table of waits. -/
structure Wt (es : List (Nat × Nat)) (N : Nat) (out : List Nat) (d : List Int) : Prop where
  len : d.length = N
  old : ∀ k, k < N → k ∈ out → d.getD k 0 = -1
  new : ∀ k, k < N → k ∉ out → d.getD k 0 = cA es out k

theorem Wt.rdy {es : List (Nat × Nat)} {N : Nat} {out : List Nat} {d : List Int} (h : Wt es N out d) {k : Nat} (hk : k < N) : d.getD k 0 = 0 ↔ rdy es out k := by
  by_cases hm : k ∈ out
  · constructor
    · intro h0
      have := h.old k hk hm
      omega
    · intro hr; exact (hr.1 hm).elim
  · rw [h.new k hk hm]
    constructor
    · intro h0
      exact ⟨hm, cA_zero.1 (by omega)⟩
    · intro hr
      have := cA_zero.2 hr.2
      omega

/-- The table while the edges of a node are taken off. -/
structure Wj (es : List (Nat × Nat)) (N : Nat) (out : List Nat) (n j : Nat) (d : List Int) : Prop where
  len : d.length = N
  old : ∀ k, k < N → k ∈ out ++ [n] → d.getD k 0 = -1
  new : ∀ k, k < N → k ∉ out ++ [n] → d.getD k 0 = (cA es out k : Int) - cC (es.take j) n k

theorem cC_take (es : List (Nat × Nat)) (n k j : Nat) (hj : j < es.length) : cC (es.take (j + 1)) n k = cC (es.take j) n k + if (es.getD j (0, 0)).1 = n ∧ (es.getD j (0, 0)).2 = k then 1 else 0 := by
  rw [take_succ_getD es j (0, 0) hj]
  unfold cC
  rw [List.countP_append]
  simp [List.countP_cons]

theorem order_ok (N : Nat) (v : Value) (es : List (Nat × Nat)) (hv : Eg H v es) (hN : N ≤ 200) (he : es.length ≤ 1000) (hval : ∀ e ∈ es, e.1 < N ∧ e.2 < N) :
    Fn Try.prog 21 [.agg #[I N, v]] H fun r H' => ∃ (out : List Nat) (w : Value), Top es N out ∧ ((out.length = N ∧ r = .tuple #[w, I 0] ∧ St Try.prog H H' [⟨w, 1, nts out⟩]) ∨
      (out.length < N ∧ (∀ i, i < N → ¬ rdy es out i) ∧ r = .tuple #[.slice none 0 0, I 22] ∧ St Try.prog H H' [])) := by
  refine Fn.of_wp (fn := Try.f21) rfl rfl (by kernel_rfl) fun l hl => ?_
  have hn : l.length = 66 := by rw [hl]; rfl
  have g0 : get l 0 = .agg #[I N, v] := by rw [hl]; rfl
  clear hl
  repeat first | (with_reducible first | refine Wp.seq ?_ | refine Wp.reg ?_ | refine Wp.block ?_ | refine Wp.skip ?_ | refine Wp.ret ?_ | refine Wp.exit ?_ | refine Wp.label ?_ | refine Wp.condG ?_) | simp (disch := omega) only [↓RP, RQ, TS, TR, ↓reduceIte, Nat.reduceEqDiff, Nat.reduceLT, Nat.reduceLeDiff, Int.reduceLT, Int.reduceLE, Int.reduceEq, Int.reduceAdd, Int.reduceSub, Int.reduceNeg, Int.reduceToNat, Nat.reduceAdd, Nat.reduceMul, Nat.reduceSub, reduceCtorEq, RC, Int.cast_ofNat_Int, hn, g0]
  refine (St.refl _ H).eNew 2 [I N, v] rfl rfl (by simp [hv.one]; rfl) tS27 fun A H1 hS => ?_
  repeat first | (with_reducible first | refine Wp.seq ?_ | refine Wp.reg ?_ | refine Wp.block ?_ | refine Wp.skip ?_ | refine Wp.ret ?_ | refine Wp.exit ?_ | refine Wp.label ?_ | refine Wp.condG ?_) | simp (disch := omega) only [↓RP, RQ, TS, TR, ↓reduceIte, Nat.reduceEqDiff, Nat.reduceLT, Nat.reduceLeDiff, Int.reduceLT, Int.reduceLE, Int.reduceEq, Int.reduceAdd, Int.reduceSub, Int.reduceNeg, Int.reduceToNat, Nat.reduceAdd, Nat.reduceMul, Nat.reduceSub, reduceCtorEq, RC, Int.cast_ofNat_Int, hn, g0, hS.ldA 0 rfl]
  refine callFW_of (check_ok N v es (hS.base hv) hN he hval) ?_
  rintro r H2 ⟨rfl, hS2⟩
  have hS := hS.trans hS2
  simp only [List.nil_append, List.cons_append, List.append_nil, List.set_cons_zero, List.set_cons_succ, setMany_cons, setMany_nil, Nat.zero_add, Nat.mul_one, Nat.add_zero] at hS
  repeat first | (with_reducible first | refine Wp.seq ?_ | refine Wp.reg ?_ | refine Wp.block ?_ | refine Wp.skip ?_ | refine Wp.ret ?_ | refine Wp.exit ?_ | refine Wp.label ?_ | refine Wp.condG ?_) | simp (disch := omega) only [↓RP, RQ, TS, TR, ↓reduceIte, Nat.reduceEqDiff, Nat.reduceLT, Nat.reduceLeDiff, Int.reduceLT, Int.reduceLE, Int.reduceEq, Int.reduceAdd, Int.reduceSub, Int.reduceNeg, Int.reduceToNat, Nat.reduceAdd, Nat.reduceMul, Nat.reduceSub, reduceCtorEq, RC, Int.cast_ofNat_Int, hn, g0, hS.ld 0 rfl]
  refine hS.eMake1 N tM29 (by omega) fun w H3 hS => ?_
  repeat first | (with_reducible first | refine Wp.seq ?_ | refine Wp.reg ?_ | refine Wp.block ?_ | refine Wp.skip ?_ | refine Wp.ret ?_ | refine Wp.exit ?_ | refine Wp.label ?_ | refine Wp.condG ?_) | simp (disch := omega) only [↓RP, RQ, TS, TR, ↓reduceIte, Nat.reduceEqDiff, Nat.reduceLT, Nat.reduceLeDiff, Int.reduceLT, Int.reduceLE, Int.reduceEq, Int.reduceAdd, Int.reduceSub, Int.reduceNeg, Int.reduceToNat, Nat.reduceAdd, Nat.reduceMul, Nat.reduceSub, reduceCtorEq, RC, Int.cast_ofNat_Int, hn, g0]
  refine hS.eNew 1 [.slice none 0 0] rfl rfl rfl tS29 fun D H4 hS => ?_
  have hw := (hS.rd 1 rfl).cells
  repeat first | (with_reducible first | refine Wp.seq ?_ | refine Wp.reg ?_ | refine Wp.block ?_ | refine Wp.skip ?_ | refine Wp.ret ?_ | refine Wp.exit ?_ | refine Wp.label ?_ | refine Wp.condG ?_) | simp (disch := omega) only [↓RP, RQ, TS, TR, ↓reduceIte, Nat.reduceEqDiff, Nat.reduceLT, Nat.reduceLeDiff, Int.reduceLT, Int.reduceLE, Int.reduceEq, Int.reduceAdd, Int.reduceSub, Int.reduceNeg, Int.reduceToNat, Nat.reduceAdd, Nat.reduceMul, Nat.reduceSub, reduceCtorEq, RC, Int.cast_ofNat_Int, hn, g0]
  refine hS.eStore 2 rfl [w] (by rw [hw.1]) (by simp [hw.2.1]) tS29 (by simp) fun H5 hS => ?_
  simp only [List.nil_append, List.cons_append, List.append_nil, List.set_cons_zero, List.set_cons_succ, setMany_cons, setMany_nil, Nat.zero_add, Nat.mul_one, Nat.add_zero] at hS
  rw [show List.replicate N (Value.int .i64 0) = (List.replicate N (0 : Int)).map (.int .i64) from by simp] at hS
  have hv1 : Sl2 H5 v _ _ es := hS.base hv
  repeat first | (with_reducible first | refine Wp.seq ?_ | refine Wp.reg ?_ | refine Wp.block ?_ | refine Wp.skip ?_ | refine Wp.ret ?_ | refine Wp.exit ?_ | refine Wp.label ?_ | refine Wp.condG ?_) | simp (disch := omega) only [↓RP, RQ, TS, TR, ↓reduceIte, Nat.reduceEqDiff, Nat.reduceLT, Nat.reduceLeDiff, Int.reduceLT, Int.reduceLE, Int.reduceEq, Int.reduceAdd, Int.reduceSub, Int.reduceNeg, Int.reduceToNat, Nat.reduceAdd, Nat.reduceMul, Nat.reduceSub, reduceCtorEq, RC, Int.cast_ofNat_Int, hn, g0, hS.ld 0 rfl, hv1.len]
  refine Wp.loopN (fun n l H' => l.length = 66 ∧ get l 1 = ptr A 0 2 ∧ get l 5 = ptr D 0 1 ∧ get l 20 = v ∧ get l 21 = I es.length ∧ ∃ (i : Nat) (d : List Int), n + i = es.length ∧ get l 22 = I i ∧ Wt (es.take i) N [] d ∧
    St Try.prog H H' [⟨ptr A 0 2, 0, [I N, v]⟩, ⟨w, 1, d.map (.int .i64)⟩, ⟨ptr D 0 1, 0, [w]⟩]) es.length ?_ ?_
  · repeat first | (with_reducible first | refine Wp.seq ?_ | refine Wp.reg ?_ | refine Wp.block ?_ | refine Wp.skip ?_ | refine Wp.ret ?_ | refine Wp.exit ?_ | refine Wp.label ?_ | refine Wp.condG ?_) | simp (disch := omega) only [↓RP, RQ, TS, TR, ↓reduceIte, Nat.reduceEqDiff, Nat.reduceLT, Nat.reduceLeDiff, Int.reduceLT, Int.reduceLE, Int.reduceEq, Int.reduceAdd, Int.reduceSub, Int.reduceNeg, Int.reduceToNat, Nat.reduceAdd, Nat.reduceMul, Nat.reduceSub, reduceCtorEq, RC, Int.cast_ofNat_Int, hn, g0]
    refine ⟨0, _, rfl, rfl, ⟨by simp, (fun k _ h => by cases h), (fun k hk _ => ?_)⟩, hS⟩
    simp [cA, List.getD_eq_getElem?_getD, hk]
  clear hS hS2 hn g0 hv1 hw
  · rintro n l H' ⟨hn, g1, g5, g20, g21, i, d, hi, g22, hW, hS⟩
    have hv1 : Sl2 H' v _ _ es := hS.base hv
    repeat first | (with_reducible first | refine Wp.seq ?_ | refine Wp.reg ?_ | refine Wp.block ?_ | refine Wp.skip ?_ | refine Wp.ret ?_ | refine Wp.exit ?_ | refine Wp.label ?_ | refine Wp.condG ?_) | simp (disch := omega) only [↓RP, RQ, TS, TR, ↓reduceIte, Nat.reduceEqDiff, Nat.reduceLT, Nat.reduceLeDiff, Int.reduceLT, Int.reduceLE, Int.reduceEq, Int.reduceAdd, Int.reduceSub, Int.reduceNeg, Int.reduceToNat, Nat.reduceAdd, Nat.reduceMul, Nat.reduceSub, reduceCtorEq, RC, Int.cast_ofNat_Int, hn, g1, g5, g20, g21, g22]
    refine condW_split (fun h => ?_) (fun h => ?_)
    · have hil : i < es.length := by omega
      have hm := hval _ (getD_mem (0, 0) hil)
      repeat first | (with_reducible first | refine Wp.seq ?_ | refine Wp.reg ?_ | refine Wp.block ?_ | refine Wp.skip ?_ | refine Wp.ret ?_ | refine Wp.exit ?_ | refine Wp.label ?_ | refine Wp.condG ?_) | simp (disch := omega) only [↓RP, RQ, TS, TR, ↓reduceIte, Nat.reduceEqDiff, Nat.reduceLT, Nat.reduceLeDiff, Int.reduceLT, Int.reduceLE, Int.reduceEq, Int.reduceAdd, Int.reduceSub, Int.reduceNeg, Int.reduceToNat, Nat.reduceAdd, Nat.reduceMul, Nat.reduceSub, reduceCtorEq, RC, Int.cast_ofNat_Int, hn, g1, g5, g20, g21, g22, hv1.idx, hv1.ldA (0, 0)]
      refine hS.eNew 2 [I 0, I 0] rfl rfl rfl tS48 fun C H5 hS => ?_
      repeat first | (with_reducible first | refine Wp.seq ?_ | refine Wp.reg ?_ | refine Wp.block ?_ | refine Wp.skip ?_ | refine Wp.ret ?_ | refine Wp.exit ?_ | refine Wp.label ?_ | refine Wp.condG ?_) | simp (disch := omega) only [↓RP, RQ, TS, TR, ↓reduceIte, Nat.reduceEqDiff, Nat.reduceLT, Nat.reduceLeDiff, Int.reduceLT, Int.reduceLE, Int.reduceEq, Int.reduceAdd, Int.reduceSub, Int.reduceNeg, Int.reduceToNat, Nat.reduceAdd, Nat.reduceMul, Nat.reduceSub, reduceCtorEq, RC, Int.cast_ofNat_Int, hn, g1, g5, g20, g21, g22]
      refine hS.eStore 3 rfl [_, _] rfl rfl tS48 (by simp) fun H6 hS => ?_
      simp only [List.nil_append, List.cons_append, List.append_nil, List.set_cons_zero, List.set_cons_succ, setMany_cons, setMany_nil, Nat.zero_add, Nat.mul_one, Nat.add_zero] at hS
      have hd1 : Sl1 H6 w (.int .i64) d := hS.rd 1 rfl
      have hdl := hW.len
      have hcnt : cA (es.take i) [] (es.getD i (0, 0)).2 ≤ es.length := Nat.le_trans List.countP_le_length (by simp; omega)
      have hdv := hW.new _ hm.2 (by simp)
      repeat first | (with_reducible first | refine Wp.seq ?_ | refine Wp.reg ?_ | refine Wp.block ?_ | refine Wp.skip ?_ | refine Wp.ret ?_ | refine Wp.exit ?_ | refine Wp.label ?_ | refine Wp.condG ?_) | simp (disch := omega) only [↓RP, RQ, TS, TR, ↓reduceIte, Nat.reduceEqDiff, Nat.reduceLT, Nat.reduceLeDiff, Int.reduceLT, Int.reduceLE, Int.reduceEq, Int.reduceAdd, Int.reduceSub, Int.reduceNeg, Int.reduceToNat, Nat.reduceAdd, Nat.reduceMul, Nat.reduceSub, reduceCtorEq, RC, Int.cast_ofNat_Int, hn, g1, g5, g20, g21, g22, hS.ld 2 rfl, hS.ld 3 rfl, hd1.idx, hd1.ld 0, wrap_fit]
      refine hS.eStoreE 1 rfl [_] rfl rfl tS3 (by simp) (by simp only [List.length_map, List.length_cons, List.length_nil]; omega) fun H7 hS => ?_
      simp only [List.nil_append, List.cons_append, List.append_nil, List.set_cons_zero, List.set_cons_succ, setMany_cons, setMany_nil, Nat.zero_add, Nat.mul_one, Nat.add_zero] at hS
      rw [← List.map_set] at hS
      repeat first | (with_reducible first | refine Wp.seq ?_ | refine Wp.reg ?_ | refine Wp.block ?_ | refine Wp.skip ?_ | refine Wp.ret ?_ | refine Wp.exit ?_ | refine Wp.label ?_ | refine Wp.condG ?_) | simp (disch := omega) only [↓RP, RQ, TS, TR, ↓reduceIte, Nat.reduceEqDiff, Nat.reduceLT, Nat.reduceLeDiff, Int.reduceLT, Int.reduceLE, Int.reduceEq, Int.reduceAdd, Int.reduceSub, Int.reduceNeg, Int.reduceToNat, Nat.reduceAdd, Nat.reduceMul, Nat.reduceSub, reduceCtorEq, RC, Int.cast_ofNat_Int, hn, g1, g5, g20, g21, g22, wrap_fit]
      refine ⟨n - 1, by omega, i + 1, d.set (es.getD i (0, 0)).2 (d.getD (es.getD i (0, 0)).2 0 + 1), by omega, rfl, ⟨by rw [List.length_set]; exact hdl, (fun k _ h => by cases h), (fun k hk _ => ?_)⟩, hS.sub (.cons_cons _ (.cons_cons _ (.cons_cons _ (.cons _ (.refl _)))))⟩
      rw [getD_set _ _ _ _ (by omega)]
      have hk0 := hW.new k hk (by simp)
      have e : cA (es.take (i + 1)) [] k = cA (es.take i) [] k + if (es.getD i (0, 0)).2 = k then 1 else 0 := by
        rw [take_succ_getD es i (0, 0) hil]
        unfold cA
        rw [List.countP_append]
        simp [List.countP_cons]
      rw [e]
      by_cases hk2 : k = (es.getD i (0, 0)).2
      · rw [if_pos hk2, if_pos hk2.symm, hk2, hdv]
        simp
      · rw [if_neg hk2, if_neg (fun hh => hk2 hh.symm), hk0]
        simp
    · have hie : i = es.length := by omega
      subst hie
      rw [List.take_length] at hW
      repeat first | (with_reducible first | refine Wp.seq ?_ | refine Wp.reg ?_ | refine Wp.block ?_ | refine Wp.skip ?_ | refine Wp.ret ?_ | refine Wp.exit ?_ | refine Wp.label ?_ | refine Wp.condG ?_) | simp (disch := omega) only [↓RP, RQ, TS, TR, ↓reduceIte, Nat.reduceEqDiff, Nat.reduceLT, Nat.reduceLeDiff, Int.reduceLT, Int.reduceLE, Int.reduceEq, Int.reduceAdd, Int.reduceSub, Int.reduceNeg, Int.reduceToNat, Nat.reduceAdd, Nat.reduceMul, Nat.reduceSub, reduceCtorEq, RC, Int.cast_ofNat_Int, hn, g1, g5, g20, g21, g22]
      have hS := (hS.nil 0).front
      simp only [List.nil_append, List.cons_append, List.append_nil, List.set_cons_zero, List.set_cons_succ, setMany_cons, setMany_nil, Nat.zero_add, Nat.mul_one, Nat.add_zero] at hS
      refine Wp.loopN (fun n l H' => l.length = 66 ∧ get l 1 = ptr A 0 2 ∧ get l 5 = ptr D 0 1 ∧ ∃ (out : List Nat) (ov : Value) (d : List Int), n + out.length = N ∧ get l 8 = ov ∧ Top es N out ∧ Wt es N out d ∧
        St Try.prog H H' [⟨ov, 1, nts out⟩, ⟨ptr A 0 2, 0, [I N, v]⟩, ⟨w, 1, d.map (.int .i64)⟩, ⟨ptr D 0 1, 0, [w]⟩]) N ?_ ?_
      · repeat first | (with_reducible first | refine Wp.seq ?_ | refine Wp.reg ?_ | refine Wp.block ?_ | refine Wp.skip ?_ | refine Wp.ret ?_ | refine Wp.exit ?_ | refine Wp.label ?_ | refine Wp.condG ?_) | simp (disch := omega) only [↓RP, RQ, TS, TR, ↓reduceIte, Nat.reduceEqDiff, Nat.reduceLT, Nat.reduceLeDiff, Int.reduceLT, Int.reduceLE, Int.reduceEq, Int.reduceAdd, Int.reduceSub, Int.reduceNeg, Int.reduceToNat, Nat.reduceAdd, Nat.reduceMul, Nat.reduceSub, reduceCtorEq, RC, Int.cast_ofNat_Int, hn, g1, g5]
        exact ⟨[], _, d, rfl, rfl, .nil, hW, hS⟩
      clear hS hn g1 g5 g20 g21 g22 hW hv1 h hi
      rintro n l H' ⟨hn, g1, g5, out, ov, d, hnl, g8, hT, hW, hS⟩
      have hov : Sl1 H' ov (fun n : Nat => I n) out := hS.rd 0 rfl
      repeat first | (with_reducible first | refine Wp.seq ?_ | refine Wp.reg ?_ | refine Wp.block ?_ | refine Wp.skip ?_ | refine Wp.ret ?_ | refine Wp.exit ?_ | refine Wp.label ?_ | refine Wp.condG ?_) | simp (disch := omega) only [↓RP, RQ, TS, TR, ↓reduceIte, Nat.reduceEqDiff, Nat.reduceLT, Nat.reduceLeDiff, Int.reduceLT, Int.reduceLE, Int.reduceEq, Int.reduceAdd, Int.reduceSub, Int.reduceNeg, Int.reduceToNat, Nat.reduceAdd, Nat.reduceMul, Nat.reduceSub, reduceCtorEq, RC, Int.cast_ofNat_Int, hn, g1, g5, g8, hov.len, hS.ld 1 rfl]
      refine condW_split (fun h => ?_) (fun h => ?_)
      · have hd1 : Sl1 H' w (.int .i64) d := hS.rd 2 rfl
        have hdl := hW.len
        repeat first | (with_reducible first | refine Wp.seq ?_ | refine Wp.reg ?_ | refine Wp.block ?_ | refine Wp.skip ?_ | refine Wp.ret ?_ | refine Wp.exit ?_ | refine Wp.label ?_ | refine Wp.condG ?_) | simp (disch := omega) only [↓RP, RQ, TS, TR, ↓reduceIte, Nat.reduceEqDiff, Nat.reduceLT, Nat.reduceLeDiff, Int.reduceLT, Int.reduceLE, Int.reduceEq, Int.reduceAdd, Int.reduceSub, Int.reduceNeg, Int.reduceToNat, Nat.reduceAdd, Nat.reduceMul, Nat.reduceSub, reduceCtorEq, RC, Int.cast_ofNat_Int, hn, g1, g5, g8, hS.ld 3 rfl]
        refine callFW_of (index_ok w 0 d hd1 (by omega)) ?_
        rintro r H2 ⟨rfl, ⟨x, hx1, rfl, hx2, hx3⟩ | ⟨rfl, hx⟩⟩
        · have hxN : x < N := by omega
          have hrx := (hW.rdy hxN).1 hx2
          have hlx : ∀ j, j < x → ¬ rdy es out j := fun j hj hr => hx3 j hj ((hW.rdy (by omega)).2 hr)
          have hT' := hT.step hxN hrx hlx
          repeat first | (with_reducible first | refine Wp.seq ?_ | refine Wp.reg ?_ | refine Wp.block ?_ | refine Wp.skip ?_ | refine Wp.ret ?_ | refine Wp.exit ?_ | refine Wp.label ?_ | refine Wp.condG ?_) | simp (disch := omega) only [↓RP, RQ, TS, TR, ↓reduceIte, Nat.reduceEqDiff, Nat.reduceLT, Nat.reduceLeDiff, Int.reduceLT, Int.reduceLE, Int.reduceEq, Int.reduceAdd, Int.reduceSub, Int.reduceNeg, Int.reduceToNat, Nat.reduceAdd, Nat.reduceMul, Nat.reduceSub, reduceCtorEq, RC, Int.cast_ofNat_Int, hn, g1, g5, g8]
          refine condW_split (fun h3 => absurd h3 (by omega)) (fun _ => ?_)
          repeat first | (with_reducible first | refine Wp.seq ?_ | refine Wp.reg ?_ | refine Wp.block ?_ | refine Wp.skip ?_ | refine Wp.ret ?_ | refine Wp.exit ?_ | refine Wp.label ?_ | refine Wp.condG ?_) | simp (disch := omega) only [↓RP, RQ, TS, TR, ↓reduceIte, Nat.reduceEqDiff, Nat.reduceLT, Nat.reduceLeDiff, Int.reduceLT, Int.reduceLE, Int.reduceEq, Int.reduceAdd, Int.reduceSub, Int.reduceNeg, Int.reduceToNat, Nat.reduceAdd, Nat.reduceMul, Nat.reduceSub, reduceCtorEq, RC, Int.cast_ofNat_Int, hn, g1, g5, g8, hS.ld 3 rfl, hd1.idx]
          refine hS.eStoreE 2 rfl [_] rfl rfl tS3 (by simp) (by simp only [List.length_map, List.length_cons, List.length_nil]; omega) fun H3 hS => ?_
          simp only [List.nil_append, List.cons_append, List.append_nil, List.set_cons_zero, List.set_cons_succ, setMany_cons, setMany_nil, Nat.zero_add, Nat.mul_one, Nat.add_zero] at hS
          rw [← List.map_set] at hS
          repeat first | (with_reducible first | refine Wp.seq ?_ | refine Wp.reg ?_ | refine Wp.block ?_ | refine Wp.skip ?_ | refine Wp.ret ?_ | refine Wp.exit ?_ | refine Wp.label ?_ | refine Wp.condG ?_) | simp (disch := omega) only [↓RP, RQ, TS, TR, ↓reduceIte, Nat.reduceEqDiff, Nat.reduceLT, Nat.reduceLeDiff, Int.reduceLT, Int.reduceLE, Int.reduceEq, Int.reduceAdd, Int.reduceSub, Int.reduceNeg, Int.reduceToNat, Nat.reduceAdd, Nat.reduceMul, Nat.reduceSub, reduceCtorEq, RC, Int.cast_ofNat_Int, hn, g1, g5, g8]
          refine hS.eSlice [I x] tP29 tF29 rfl rfl (by simp [Value.cells]) rfl rfl (by decide) (by decide) fun y H4 hS => ?_
          repeat first | (with_reducible first | refine Wp.seq ?_ | refine Wp.reg ?_ | refine Wp.block ?_ | refine Wp.skip ?_ | refine Wp.ret ?_ | refine Wp.exit ?_ | refine Wp.label ?_ | refine Wp.condG ?_) | simp (disch := omega) only [↓RP, RQ, TS, TR, ↓reduceIte, Nat.reduceEqDiff, Nat.reduceLT, Nat.reduceLeDiff, Int.reduceLT, Int.reduceLE, Int.reduceEq, Int.reduceAdd, Int.reduceSub, Int.reduceNeg, Int.reduceToNat, Nat.reduceAdd, Nat.reduceMul, Nat.reduceSub, reduceCtorEq, RC, Int.cast_ofNat_Int, hn, g1, g5, g8]
          refine hS.eAppend 0 rfl (hS.rd 4 rfl) tP29 (by simp only [nts, List.length_map, List.length_cons, List.length_nil]; omega) fun ov' H5 hS => ?_
          simp only [List.nil_append, List.cons_append, List.append_nil, List.set_cons_zero, List.set_cons_succ, setMany_cons, setMany_nil, Nat.zero_add, Nat.mul_one, Nat.add_zero] at hS
          have hS := hS.sub (os' := [⟨ov', 1, nts (out ++ [x])⟩, ⟨ptr A 0 2, 0, [I N, v]⟩, ⟨w, 1, (d.set x (-1)).map (.int .i64)⟩, ⟨ptr D 0 1, 0, [w]⟩]) (by simp [nts])
          repeat first | (with_reducible first | refine Wp.seq ?_ | refine Wp.reg ?_ | refine Wp.block ?_ | refine Wp.skip ?_ | refine Wp.ret ?_ | refine Wp.exit ?_ | refine Wp.label ?_ | refine Wp.condG ?_) | simp (disch := omega) only [↓RP, RQ, TS, TR, ↓reduceIte, Nat.reduceEqDiff, Nat.reduceLT, Nat.reduceLeDiff, Int.reduceLT, Int.reduceLE, Int.reduceEq, Int.reduceAdd, Int.reduceSub, Int.reduceNeg, Int.reduceToNat, Nat.reduceAdd, Nat.reduceMul, Nat.reduceSub, reduceCtorEq, RC, Int.cast_ofNat_Int, hn, g1, g5, hS.ldA 1 rfl]
          refine callFW_of (out1_ok N x v hv.one) ?_
          rintro r H6 ⟨Ag, An, rfl, hS2⟩
          have hS := hS.trans hS2
          simp only [List.nil_append, List.cons_append, List.append_nil, List.set_cons_zero, List.set_cons_succ, setMany_cons, setMany_nil, Nat.zero_add, Nat.mul_one, Nat.add_zero] at hS
          repeat first | (with_reducible first | refine Wp.seq ?_ | refine Wp.reg ?_ | refine Wp.block ?_ | refine Wp.skip ?_ | refine Wp.ret ?_ | refine Wp.exit ?_ | refine Wp.label ?_ | refine Wp.condG ?_) | simp (disch := omega) only [↓RP, RQ, TS, TR, ↓reduceIte, Nat.reduceEqDiff, Nat.reduceLT, Nat.reduceLeDiff, Int.reduceLT, Int.reduceLE, Int.reduceEq, Int.reduceAdd, Int.reduceSub, Int.reduceNeg, Int.reduceToNat, Nat.reduceAdd, Nat.reduceMul, Nat.reduceSub, reduceCtorEq, RC, Int.cast_ofNat_Int, hn, g1, g5]
          refine Wp.slots fun l' hl' => ?_
          have hn' : l'.length = 66 := by rw [hl']; simp (disch := omega) only [↓RP, RQ, TS, TR, ↓reduceIte, Nat.reduceEqDiff, Nat.reduceLT, Nat.reduceLeDiff, Int.reduceLT, Int.reduceLE, Int.reduceEq, Int.reduceAdd, Int.reduceSub, Int.reduceNeg, Int.reduceToNat, Nat.reduceAdd, Nat.reduceMul, Nat.reduceSub, reduceCtorEq, RC, Int.cast_ofNat_Int, hn]
          have g1' : get l' 1 = ptr A 0 2 := by rw [hl']; simp (disch := omega) only [↓RP, RQ, TS, TR, ↓reduceIte, Nat.reduceEqDiff, Nat.reduceLT, Nat.reduceLeDiff, Int.reduceLT, Int.reduceLE, Int.reduceEq, Int.reduceAdd, Int.reduceSub, Int.reduceNeg, Int.reduceToNat, Nat.reduceAdd, Nat.reduceMul, Nat.reduceSub, reduceCtorEq, RC, Int.cast_ofNat_Int, hn, g1]
          have g5' : get l' 5 = ptr D 0 1 := by rw [hl']; simp (disch := omega) only [↓RP, RQ, TS, TR, ↓reduceIte, Nat.reduceEqDiff, Nat.reduceLT, Nat.reduceLeDiff, Int.reduceLT, Int.reduceLE, Int.reduceEq, Int.reduceAdd, Int.reduceSub, Int.reduceNeg, Int.reduceToNat, Nat.reduceAdd, Nat.reduceMul, Nat.reduceSub, reduceCtorEq, RC, Int.cast_ofNat_Int, hn, g5]
          have g8' : get l' 8 = ov' := by rw [hl']; simp (disch := omega) only [↓RP, RQ, TS, TR, ↓reduceIte, Nat.reduceEqDiff, Nat.reduceLT, Nat.reduceLeDiff, Int.reduceLT, Int.reduceLE, Int.reduceEq, Int.reduceAdd, Int.reduceSub, Int.reduceNeg, Int.reduceToNat, Nat.reduceAdd, Nat.reduceMul, Nat.reduceSub, reduceCtorEq, RC, Int.cast_ofNat_Int, hn]
          have g52' : get l' 52 = .func (.func 50) #[] [ptr Ag 0 2, ptr An 0 1].toArray := by rw [hl']; simp (disch := omega) only [↓RP, RQ, TS, TR, ↓reduceIte, Nat.reduceEqDiff, Nat.reduceLT, Nat.reduceLeDiff, Int.reduceLT, Int.reduceLE, Int.reduceEq, Int.reduceAdd, Int.reduceSub, Int.reduceNeg, Int.reduceToNat, Nat.reduceAdd, Nat.reduceMul, Nat.reduceSub, reduceCtorEq, RC, Int.cast_ofNat_Int, hn]
          clear hl' hn g1 g5 g8 hS2 hd1 hov
          refine Wp.rangeR g52' fun r hst hpd htm hps has hbd => ?_
          have hreq : ({ r with state := .ready, pending := none } : Loop) = r := by
            cases r
            simp only at hst hpd
            subst hst hpd
            rfl
          have hLp := Lp.enter hS r
          generalize H6.cons (.loop r) = Hc at hLp ⊢
          generalize H6.length = L at hLp ⊢
          clear hS
          have hcCl : ∀ j k, cC (es.take j) x k ≤ es.length := fun j k => Nat.le_trans List.countP_le_length (by simp; omega)
          have hcAl : ∀ k, cA es out k ≤ es.length := fun k => List.countP_le_length
          have hj0 : Wj es N out x 0 (d.set x (-1)) := by
            refine ⟨by rw [List.length_set]; exact hdl, fun k hk hm => ?_, fun k hk hm => ?_⟩
            · rw [getD_set _ _ _ _ (by omega)]
              split
              · rfl
              · rename_i hne
                rcases List.mem_append.1 hm with hm | hm
                · exact hW.old k hk hm
                · exact (hne (List.mem_singleton.1 hm)).elim
            · have hne : k ≠ x := fun hh => hm (by rw [hh]; simp)
              rw [getD_set _ _ _ _ (by omega), if_neg hne, hW.new k hk (fun hh => hm (List.mem_append_left _ hh))]
              simp [cC]
          refine (out_ok N x v es he Ag An (.func (.yield L) #[] #[])
            (fun j H1 => ∃ dd, Wj es N out x j dd ∧ Lp Try.prog H L r H1 [⟨ov', 1, nts (out ++ [x])⟩, ⟨ptr A 0 2, 0, [I N, v]⟩, ⟨w, 1, dd.map (.int .i64)⟩, ⟨ptr D 0 1, 0, [w]⟩, ⟨ptr Ag 0 2, 0, [I N, v]⟩, ⟨ptr An 0 1, 0, [I x]⟩])
            (fun _ => False) ⟨_, hj0, hLp⟩ ?_ ?_ ?_ ?_).mono ?_
          · rintro j H1 ⟨dd, _, h1⟩
            exact ⟨h1.st.var 4 rfl, h1.st.var 5 rfl, h1.st.base hv⟩
          · rintro j H1 H2 ⟨dd, h1, h2⟩ h3
            exact ⟨dd, h1, by simpa using h2.ext h3⟩
          · rintro j H1 hj hne ⟨dd, h1, h2⟩
            refine ⟨dd, ⟨h1.len, h1.old, fun k hk hm => ?_⟩, h2⟩
            rw [h1.new k hk hm, cC_take es x k j hj, if_neg (fun hh => hne hh.1)]
            simp
          · rintro j H1 hj hja ⟨dd, hJ, h1⟩
            have hme := getD_mem (0, 0) hj
            have hm := hval _ hme
            have htn : (es.getD j (0, 0)).2 ∉ out ++ [x] := by
              intro hh
              rcases List.mem_append.1 hh with hh | hh
              · have := hT.pred _ hme hh
                rw [hja] at this
                exact hrx.1 this
              · have := hrx.2 _ hme (List.mem_singleton.1 hh)
                rw [hja] at this
                exact hrx.1 this
            have hdt := hJ.new _ hm.2 htn
            have hb1 := hcCl j (es.getD j (0, 0)).2
            have hb2 := hcAl (es.getD j (0, 0)).2
            have hjl := hJ.len
            refine callW_yield h1.get (by rw [hps]; rfl) hst ?_
            refine Wp.of_eq (l := put l' (some 53) (I j)) has (by rw [hps, htm]; exact (setL_eq ..).symm) ?_
            repeat first | (with_reducible first | refine Wp.seq ?_ | refine Wp.reg ?_ | refine Wp.block ?_ | refine Wp.skip ?_ | refine Wp.ret ?_ | refine Wp.exit ?_ | refine Wp.label ?_ | refine Wp.condG ?_) | simp (disch := omega) only [↓RP, RQ, TS, TR, ↓reduceIte, Nat.reduceEqDiff, Nat.reduceLT, Nat.reduceLeDiff, Int.reduceLT, Int.reduceLE, Int.reduceEq, Int.reduceAdd, Int.reduceSub, Int.reduceNeg, Int.reduceToNat, Nat.reduceAdd, Nat.reduceMul, Nat.reduceSub, reduceCtorEq, RC, Int.cast_ofNat_Int, hn']
            refine ⟨r, h1.get, hst, ?_⟩
            have hB := h1.set (fun h => h) { r with state := .busy }
            generalize hset H1 L (.loop { r with state := .busy }) = Hb at hB ⊢
            refine Wp.of_eq hbd rfl ?_
            have hS := hB.st.rebase
            have hv1 : Sl2 Hb v _ _ es := hB.st.base hv
            have hd1 : Sl1 Hb w (.int .i64) dd := hS.rd 2 rfl
            repeat first | (with_reducible first | refine Wp.seq ?_ | refine Wp.reg ?_ | refine Wp.block ?_ | refine Wp.skip ?_ | refine Wp.ret ?_ | refine Wp.exit ?_ | refine Wp.label ?_ | refine Wp.condG ?_) | with_reducible refine Wp.drw hmix (by kernel_rfl) ?_ | simp (disch := omega) only [↓RP, RQ, TS, TR, ↓reduceIte, Nat.reduceEqDiff, Nat.reduceLT, Nat.reduceLeDiff, Int.reduceLT, Int.reduceLE, Int.reduceEq, Int.reduceAdd, Int.reduceSub, Int.reduceNeg, Int.reduceToNat, Nat.reduceAdd, Nat.reduceMul, Nat.reduceSub, reduceCtorEq, RC, Int.cast_ofNat_Int, hn', g1', g5', g8', hS.ld 1 rfl, hS.ld 3 rfl, hv1.idx, hv1.fld, hv1.ld1 (0, 0), hd1.idx, hd1.ld 0, wrap_fit]
            refine hS.eStoreE 2 rfl [_] rfl rfl tS3 (by simp) (by simp only [List.length_map, List.length_cons, List.length_nil]; omega) fun H8 hS => ?_
            simp only [List.nil_append, List.cons_append, List.append_nil, List.set_cons_zero, List.set_cons_succ, setMany_cons, setMany_nil, Nat.zero_add, Nat.mul_one, Nat.add_zero] at hS
            rw [← List.map_set] at hS
            repeat first | (with_reducible first | refine Wp.seq ?_ | refine Wp.reg ?_ | refine Wp.block ?_ | refine Wp.skip ?_ | refine Wp.ret ?_ | refine Wp.exit ?_ | refine Wp.label ?_ | refine Wp.condG ?_) | simp (disch := omega) only [↓RP, RQ, TS, TR, ↓reduceIte, Nat.reduceEqDiff, Nat.reduceLT, Nat.reduceLeDiff, Int.reduceLT, Int.reduceLE, Int.reduceEq, Int.reduceAdd, Int.reduceSub, Int.reduceNeg, Int.reduceToNat, Nat.reduceAdd, Nat.reduceMul, Nat.reduceSub, reduceCtorEq, RC, Int.cast_ofNat_Int, hn', g1', g5', g8']
            have hB2 := hB.body hS
            refine ⟨_, hB2.get, true, rfl, (fun _ => ⟨dd.set (es.getD j (0, 0)).2 (dd.getD (es.getD j (0, 0)).2 0 - 1), ?_, ?_⟩), (fun h => by cases h)⟩
            · refine ⟨by rw [List.length_set]; exact hjl, fun k hk hmk => ?_, fun k hk hmk => ?_⟩
              · rw [getD_set _ _ _ _ (by omega), if_neg (fun hh => htn (by rw [← hh]; exact hmk))]
                exact hJ.old k hk hmk
              · rw [getD_set _ _ _ _ (by omega), cC_take es x k j hj]
                by_cases hk2 : k = (es.getD j (0, 0)).2
                · rw [if_pos hk2, if_pos ⟨hja, hk2.symm⟩, hk2, hdt]
                  simp
                  omega
                · rw [if_neg hk2, if_neg (fun hh => hk2 hh.2.symm), hJ.new k hk hmk]
                  simp
            · have := hB2.set (fun h => h) r
              rw [← hreq] at this
              exact hreq ▸ this
          · rintro _ H7 (⟨dd, hJ, h1⟩ | hf)
            · refine ⟨_, h1.get, (by rw [hst]; intro h; cases h), (fun _ => ?_), (fun c hc => by rw [hpd] at hc; cases hc)⟩
              have hB := h1.set (fun h => h) { r with state := .exhausted }
              have hS := hB.st
              generalize hset H7 L (.loop { r with state := .exhausted }) = H8 at hS ⊢
              repeat first | (with_reducible first | refine Wp.seq ?_ | refine Wp.reg ?_ | refine Wp.block ?_ | refine Wp.skip ?_ | refine Wp.ret ?_ | refine Wp.exit ?_ | refine Wp.label ?_ | refine Wp.condG ?_) | simp (disch := omega) only [↓RP, RQ, TS, TR, ↓reduceIte, Nat.reduceEqDiff, Nat.reduceLT, Nat.reduceLeDiff, Int.reduceLT, Int.reduceLE, Int.reduceEq, Int.reduceAdd, Int.reduceSub, Int.reduceNeg, Int.reduceToNat, Nat.reduceAdd, Nat.reduceMul, Nat.reduceSub, reduceCtorEq, RC, Int.cast_ofNat_Int, hn', g1', g5', g8']
              refine ⟨n - 1, by omega, out ++ [x], ov', dd, ?_, rfl, hT', ⟨hJ.len, hJ.old, fun k hk hm => ?_⟩, hS.sub ?_⟩
              · rw [List.length_append]
                simp only [List.length_cons, List.length_nil]
                omega
              · have := hJ.new k hk hm
                rw [List.take_length] at this
                rw [this, cA_split x k out hrx.1 es]
                omega
              · exact .cons_cons _ (.cons_cons _ (.cons_cons _ (.cons_cons _ (.cons _ (.cons _ (.refl _))))))
            · exact hf.elim
        · repeat first | (with_reducible first | refine Wp.seq ?_ | refine Wp.reg ?_ | refine Wp.block ?_ | refine Wp.skip ?_ | refine Wp.ret ?_ | refine Wp.exit ?_ | refine Wp.label ?_ | refine Wp.condG ?_) | simp (disch := omega) only [↓RP, RQ, TS, TR, ↓reduceIte, Nat.reduceEqDiff, Nat.reduceLT, Nat.reduceLeDiff, Int.reduceLT, Int.reduceLE, Int.reduceEq, Int.reduceAdd, Int.reduceSub, Int.reduceNeg, Int.reduceToNat, Nat.reduceAdd, Nat.reduceMul, Nat.reduceSub, reduceCtorEq, RC, Int.cast_ofNat_Int, hn, g1, g5, g8]
          refine ⟨out, ov, hT, .inr ⟨by omega, fun i hi hr => hx i (by omega) ((hW.rdy hi).2 hr), hS.forget⟩⟩
      · have ho := hS.rd 0 rfl
        repeat first | (with_reducible first | refine Wp.seq ?_ | refine Wp.reg ?_ | refine Wp.block ?_ | refine Wp.skip ?_ | refine Wp.ret ?_ | refine Wp.exit ?_ | refine Wp.label ?_ | refine Wp.condG ?_) | simp (disch := omega) only [↓RP, RQ, TS, TR, ↓reduceIte, Nat.reduceEqDiff, Nat.reduceLT, Nat.reduceLeDiff, Int.reduceLT, Int.reduceLE, Int.reduceEq, Int.reduceAdd, Int.reduceSub, Int.reduceNeg, Int.reduceToNat, Nat.reduceAdd, Nat.reduceMul, Nat.reduceSub, reduceCtorEq, RC, Int.cast_ofNat_Int, hn, g1, g5, g8, ho.noTuple]
        exact ⟨out, ov, hT, .inl ⟨by omega, rfl, hS.sub (by simp)⟩⟩
end Go.Ds
/-
  Contracts: the reference's Order.
-/
namespace Go.Ds
open Go.Proofs Go.Plain
variable {H : Heap}

/-- Which have come. -/
abbrev dn (N : Nat) (out : List Nat) : List Value := (List.range N).map fun k => .bool (decide (k ∈ out))
theorem dn_set (N i : Nat) (out : List Nat) : (dn N out).set i (.bool true) = dn N (out ++ [i]) := by
  unfold dn
  rw [map_upd]
  apply List.map_congr_left
  intro k _
  unfold upd
  by_cases e : k = i
  · rw [if_pos e, e]; simp
  · rw [if_neg e]; simp [e]

theorem refOrder_ok (N : Nat) (ev : Value) (es : List (Nat × Nat)) (hE : Eg H ev es) (hN : N ≤ 200) (he : es.length ≤ 1000) (hval : ∀ e ∈ es, e.1 < N ∧ e.2 < N) (hno : ∀ n a, ¬ W es (n + 1) a a) :
    Fn Try.prog 23 [I N, ev] H fun r H' => ∃ out : List Nat, Top es N out ∧ out.length = N ∧ St Try.prog H H' [⟨r, 1, nts out⟩] := by
  have hrl : (List.range N).length = N := List.length_range
  refine Fn.of_wp (fn := Try.f23) rfl rfl (by kernel_rfl) fun l hl => ?_
  have hn : l.length = 61 := by rw [hl]; rfl
  have g0 : get l 0 = I N := by rw [hl]; rfl
  have g1 : get l 1 = ev := by rw [hl]; rfl
  clear hl
  repeat first | (with_reducible first | refine Wp.seq ?_ | refine Wp.reg ?_ | refine Wp.block ?_ | refine Wp.skip ?_ | refine Wp.ret ?_ | refine Wp.exit ?_ | refine Wp.label ?_ | refine Wp.condG ?_) | simp (disch := omega) only [↓RP, RQ, TS, TR, ↓reduceIte, Nat.reduceEqDiff, Nat.reduceLT, Nat.reduceLeDiff, Int.reduceLT, Int.reduceLE, Int.reduceEq, Int.reduceAdd, Int.reduceSub, Int.reduceNeg, Int.reduceToNat, Nat.reduceAdd, Nat.reduceMul, Nat.reduceSub, reduceCtorEq, RC, Int.cast_ofNat_Int, hn, g0, g1]
  refine (St.refl _ H).eMake1 N tM69 (by omega) fun w H1 hS => ?_
  have hS := (hS.nil 0).front
  rw [show List.replicate N (Value.bool false) = dn N [] from by unfold dn; simp [List.map_const']] at hS
  simp only [List.nil_append, List.cons_append, List.append_nil, List.set_cons_zero, List.set_cons_succ, setMany_cons, setMany_nil, Nat.zero_add, Nat.mul_one, Nat.add_zero] at hS
  repeat first | (with_reducible first | refine Wp.seq ?_ | refine Wp.reg ?_ | refine Wp.block ?_ | refine Wp.skip ?_ | refine Wp.ret ?_ | refine Wp.exit ?_ | refine Wp.label ?_ | refine Wp.condG ?_) | simp (disch := omega) only [↓RP, RQ, TS, TR, ↓reduceIte, Nat.reduceEqDiff, Nat.reduceLT, Nat.reduceLeDiff, Int.reduceLT, Int.reduceLE, Int.reduceEq, Int.reduceAdd, Int.reduceSub, Int.reduceNeg, Int.reduceToNat, Nat.reduceAdd, Nat.reduceMul, Nat.reduceSub, reduceCtorEq, RC, Int.cast_ofNat_Int, hn, g0, g1]
  refine Wp.loopN (fun n l H' => l.length = 61 ∧ get l 0 = I N ∧ get l 1 = ev ∧ get l 5 = w ∧ ∃ (out : List Nat) (ov : Value), n + out.length = N ∧ get l 6 = ov ∧ Top es N out ∧ St Try.prog H H' [⟨ov, 1, nts out⟩, ⟨w, 1, dn N out⟩]) N ?_ ?_
  · repeat first | (with_reducible first | refine Wp.seq ?_ | refine Wp.reg ?_ | refine Wp.block ?_ | refine Wp.skip ?_ | refine Wp.ret ?_ | refine Wp.exit ?_ | refine Wp.label ?_ | refine Wp.condG ?_) | simp (disch := omega) only [↓RP, RQ, TS, TR, ↓reduceIte, Nat.reduceEqDiff, Nat.reduceLT, Nat.reduceLeDiff, Int.reduceLT, Int.reduceLE, Int.reduceEq, Int.reduceAdd, Int.reduceSub, Int.reduceNeg, Int.reduceToNat, Nat.reduceAdd, Nat.reduceMul, Nat.reduceSub, reduceCtorEq, RC, Int.cast_ofNat_Int, hn, g0, g1]
    exact ⟨[], _, rfl, rfl, .nil, hS⟩
  clear hS hn g0 g1
  rintro n l H' ⟨hn, g0, g1, g5, out, ov, hnl, g6, hT, hS⟩
  have hov : Sl1 H' ov (fun n : Nat => I n) out := hS.rd 0 rfl
  repeat first | (with_reducible first | refine Wp.seq ?_ | refine Wp.reg ?_ | refine Wp.block ?_ | refine Wp.skip ?_ | refine Wp.ret ?_ | refine Wp.exit ?_ | refine Wp.label ?_ | refine Wp.condG ?_) | simp (disch := omega) only [↓RP, RQ, TS, TR, ↓reduceIte, Nat.reduceEqDiff, Nat.reduceLT, Nat.reduceLeDiff, Int.reduceLT, Int.reduceLE, Int.reduceEq, Int.reduceAdd, Int.reduceSub, Int.reduceNeg, Int.reduceToNat, Nat.reduceAdd, Nat.reduceMul, Nat.reduceSub, reduceCtorEq, RC, Int.cast_ofNat_Int, hn, g0, g1, g5, g6, hov.len]
  refine condW_split (fun h => ?_) (fun h => ?_)
  · obtain ⟨x, hxN, hrx, hlx⟩ := Top.more hval hno (show out.length < N by omega)
    have hw : Sl1 H' w (fun k => .bool (decide (k ∈ out))) (List.range N) := hS.rd 1 rfl
    have hv1 : Sl2 H' ev _ _ es := hS.base hE
    repeat first | (with_reducible first | refine Wp.seq ?_ | refine Wp.reg ?_ | refine Wp.block ?_ | refine Wp.skip ?_ | refine Wp.ret ?_ | refine Wp.exit ?_ | refine Wp.label ?_ | refine Wp.condG ?_) | simp (disch := omega) only [↓RP, RQ, TS, TR, ↓reduceIte, Nat.reduceEqDiff, Nat.reduceLT, Nat.reduceLeDiff, Int.reduceLT, Int.reduceLE, Int.reduceEq, Int.reduceAdd, Int.reduceSub, Int.reduceNeg, Int.reduceToNat, Nat.reduceAdd, Nat.reduceMul, Nat.reduceSub, reduceCtorEq, RC, Int.cast_ofNat_Int, hn, g0, g1, g5, g6]
    refine Wp.mono (Q := fun e l2 H2 => e = .exit 2 ∧ l2.length = 61 ∧ get l2 0 = I N ∧ get l2 1 = ev ∧ get l2 5 = w ∧ ∃ ov', get l2 6 = ov' ∧ St Try.prog H H2 [⟨ov', 1, nts (out ++ [x])⟩, ⟨w, 1, dn N (out ++ [x])⟩]) ?_ ?_
    · refine Wp.loopN (fun m l H2 => H2 = H' ∧ l.length = 61 ∧ get l 0 = I N ∧ get l 1 = ev ∧ get l 5 = w ∧ get l 6 = ov ∧ ∃ i : Nat, m + i = N ∧ get l 7 = I i ∧ i ≤ x) N ?_ ?_
      · repeat first | (with_reducible first | refine Wp.seq ?_ | refine Wp.reg ?_ | refine Wp.block ?_ | refine Wp.skip ?_ | refine Wp.ret ?_ | refine Wp.exit ?_ | refine Wp.label ?_ | refine Wp.condG ?_) | simp (disch := omega) only [↓RP, RQ, TS, TR, ↓reduceIte, Nat.reduceEqDiff, Nat.reduceLT, Nat.reduceLeDiff, Int.reduceLT, Int.reduceLE, Int.reduceEq, Int.reduceAdd, Int.reduceSub, Int.reduceNeg, Int.reduceToNat, Nat.reduceAdd, Nat.reduceMul, Nat.reduceSub, reduceCtorEq, RC, Int.cast_ofNat_Int, hn, g0, g1, g5, g6]
        exact ⟨0, rfl, rfl, Nat.zero_le _⟩
      clear hn g0 g1 g5 g6
      rintro m l H2 ⟨rfl, hn, g0, g1, g5, g6, i, hi, g7, hix⟩
      repeat first | (with_reducible first | refine Wp.seq ?_ | refine Wp.reg ?_ | refine Wp.block ?_ | refine Wp.skip ?_ | refine Wp.ret ?_ | refine Wp.exit ?_ | refine Wp.label ?_ | refine Wp.condG ?_) | simp (disch := omega) only [↓RP, RQ, TS, TR, ↓reduceIte, Nat.reduceEqDiff, Nat.reduceLT, Nat.reduceLeDiff, Int.reduceLT, Int.reduceLE, Int.reduceEq, Int.reduceAdd, Int.reduceSub, Int.reduceNeg, Int.reduceToNat, Nat.reduceAdd, Nat.reduceMul, Nat.reduceSub, reduceCtorEq, RC, Int.cast_ofNat_Int, hn, g0, g1, g5, g6, g7]
      refine condW_split (fun h2 => ?_) (fun h2 => absurd h2 (by omega))
      repeat first | (with_reducible first | refine Wp.seq ?_ | refine Wp.reg ?_ | refine Wp.block ?_ | refine Wp.skip ?_ | refine Wp.ret ?_ | refine Wp.exit ?_ | refine Wp.label ?_ | refine Wp.condG ?_) | simp (disch := omega) only [↓RP, RQ, TS, TR, ↓reduceIte, Nat.reduceEqDiff, Nat.reduceLT, Nat.reduceLeDiff, Int.reduceLT, Int.reduceLE, Int.reduceEq, Int.reduceAdd, Int.reduceSub, Int.reduceNeg, Int.reduceToNat, Nat.reduceAdd, Nat.reduceMul, Nat.reduceSub, reduceCtorEq, RC, Int.cast_ofNat_Int, hn, g0, g1, g5, g6, g7, hw.idx, hw.ld 0, getD_range]
      refine Wp.mono (Q := fun e l2 H3 => e = .exit 4 ∧ H3 = H2 ∧ l2.length = 61 ∧ get l2 0 = I N ∧ get l2 1 = ev ∧ get l2 5 = w ∧ get l2 6 = ov ∧ get l2 7 = I i ∧ ∃ b : Bool, get l2 8 = .bool b ∧ (b = true ↔ rdy es out i)) ?_ ?_
      · refine Wp.loopN (fun q l H3 => H3 = H2 ∧ l.length = 61 ∧ get l 0 = I N ∧ get l 1 = ev ∧ get l 5 = w ∧ get l 6 = ov ∧ get l 7 = I i ∧ ∃ (k : Nat) (b : Bool), q + k = es.length ∧ get l 9 = I k ∧ get l 8 = .bool b ∧
          (b = true ↔ i ∉ out ∧ ∀ j, j < k → (es.getD j (0, 0)).2 = i → (es.getD j (0, 0)).1 ∈ out)) es.length ?_ ?_
        · repeat first | (with_reducible first | refine Wp.seq ?_ | refine Wp.reg ?_ | refine Wp.block ?_ | refine Wp.skip ?_ | refine Wp.ret ?_ | refine Wp.exit ?_ | refine Wp.label ?_ | refine Wp.condG ?_) | simp (disch := omega) only [↓RP, RQ, TS, TR, ↓reduceIte, Nat.reduceEqDiff, Nat.reduceLT, Nat.reduceLeDiff, Int.reduceLT, Int.reduceLE, Int.reduceEq, Int.reduceAdd, Int.reduceSub, Int.reduceNeg, Int.reduceToNat, Nat.reduceAdd, Nat.reduceMul, Nat.reduceSub, reduceCtorEq, RC, Int.cast_ofNat_Int, hn, g0, g1, g5, g6, g7]
          refine ⟨0, _, rfl, rfl, rfl, ?_⟩
          simp
        clear hn g0 g1 g5 g6 g7
        rintro q l H3 ⟨rfl, hn, g0, g1, g5, g6, g7, k, b, hk, g9, g8, hb⟩
        repeat first | (with_reducible first | refine Wp.seq ?_ | refine Wp.reg ?_ | refine Wp.block ?_ | refine Wp.skip ?_ | refine Wp.ret ?_ | refine Wp.exit ?_ | refine Wp.label ?_ | refine Wp.condG ?_) | simp (disch := omega) only [↓RP, RQ, TS, TR, ↓reduceIte, Nat.reduceEqDiff, Nat.reduceLT, Nat.reduceLeDiff, Int.reduceLT, Int.reduceLE, Int.reduceEq, Int.reduceAdd, Int.reduceSub, Int.reduceNeg, Int.reduceToNat, Nat.reduceAdd, Nat.reduceMul, Nat.reduceSub, reduceCtorEq, RC, Int.cast_ofNat_Int, hn, g0, g1, g5, g6, g7, g8, g9, hv1.len]
        refine condW_split (fun h3 => ?_) (fun h3 => ?_)
        · have hkl : k < es.length := by omega
          have hm := hval _ (getD_mem (0, 0) hkl)
          have hstep : (b = true ∧ ((es.getD k (0, 0)).2 = i → (es.getD k (0, 0)).1 ∈ out)) ↔ (i ∉ out ∧ ∀ j, j < k + 1 → (es.getD j (0, 0)).2 = i → (es.getD j (0, 0)).1 ∈ out) := by
            rw [hb]
            constructor
            · rintro ⟨⟨h5, h6⟩, h7⟩
              refine ⟨h5, fun j hj => ?_⟩
              by_cases e : j = k
              · subst e; exact h7
              · exact h6 j (by omega)
            · rintro ⟨h5, h6⟩
              exact ⟨⟨h5, fun j hj => h6 j (by omega)⟩, h6 k (by omega)⟩
          cases b with
          | false =>
            repeat first | (with_reducible first | refine Wp.seq ?_ | refine Wp.reg ?_ | refine Wp.block ?_ | refine Wp.skip ?_ | refine Wp.ret ?_ | refine Wp.exit ?_ | refine Wp.label ?_ | refine Wp.condG ?_) | simp (disch := omega) only [↓RP, RQ, TS, TR, ↓reduceIte, Nat.reduceEqDiff, Nat.reduceLT, Nat.reduceLeDiff, Int.reduceLT, Int.reduceLE, Int.reduceEq, Int.reduceAdd, Int.reduceSub, Int.reduceNeg, Int.reduceToNat, Nat.reduceAdd, Nat.reduceMul, Nat.reduceSub, reduceCtorEq, RC, Int.cast_ofNat_Int, hn, g0, g1, g5, g6, g7, g8, g9, wrap_fit]
            refine ⟨q - 1, by omega, k + 1, false, by omega, rfl, rfl, ?_⟩
            rw [← hstep]
            simp
          | true =>
            repeat first | (with_reducible first | refine Wp.seq ?_ | refine Wp.reg ?_ | refine Wp.block ?_ | refine Wp.skip ?_ | refine Wp.ret ?_ | refine Wp.exit ?_ | refine Wp.label ?_ | refine Wp.condG ?_) | simp (disch := omega) only [↓RP, RQ, TS, TR, ↓reduceIte, Nat.reduceEqDiff, Nat.reduceLT, Nat.reduceLeDiff, Int.reduceLT, Int.reduceLE, Int.reduceEq, Int.reduceAdd, Int.reduceSub, Int.reduceNeg, Int.reduceToNat, Nat.reduceAdd, Nat.reduceMul, Nat.reduceSub, reduceCtorEq, RC, Int.cast_ofNat_Int, hn, g0, g1, g5, g6, g7, g8, g9, hv1.idx, hv1.fld, hv1.ld1 (0, 0)]
            refine letG_split' (fun h4 => ?_) (fun h4 => ?_)
            · repeat first | (with_reducible first | refine Wp.seq ?_ | refine Wp.reg ?_ | refine Wp.block ?_ | refine Wp.skip ?_ | refine Wp.ret ?_ | refine Wp.exit ?_ | refine Wp.label ?_ | refine Wp.condG ?_) | simp (disch := omega) only [↓RP, RQ, TS, TR, ↓reduceIte, Nat.reduceEqDiff, Nat.reduceLT, Nat.reduceLeDiff, Int.reduceLT, Int.reduceLE, Int.reduceEq, Int.reduceAdd, Int.reduceSub, Int.reduceNeg, Int.reduceToNat, Nat.reduceAdd, Nat.reduceMul, Nat.reduceSub, reduceCtorEq, RC, Int.cast_ofNat_Int, hn, g0, g1, g5, g6, g7, g8, g9, h4, wrap_fit]
              refine ⟨q - 1, by omega, k + 1, true, by omega, rfl, rfl, ?_⟩
              rw [← hstep]
              simp only [true_and, true_iff]
              intro h5
              exact (h4 (by rw [h5])).elim
            · have h4' : (es.getD k (0, 0)).2 = i := by omega
              have hd4 : decide (¬ ((es.getD k (0, 0)).2 : Int) = (i : Int)) = false := decide_eq_false (fun hh => hh (by rw [h4']))
              repeat first | (with_reducible first | refine Wp.seq ?_ | refine Wp.reg ?_ | refine Wp.block ?_ | refine Wp.skip ?_ | refine Wp.ret ?_ | refine Wp.exit ?_ | refine Wp.label ?_ | refine Wp.condG ?_) | simp (disch := omega) only [↓RP, RQ, TS, TR, ↓reduceIte, Nat.reduceEqDiff, Nat.reduceLT, Nat.reduceLeDiff, Int.reduceLT, Int.reduceLE, Int.reduceEq, Int.reduceAdd, Int.reduceSub, Int.reduceNeg, Int.reduceToNat, Nat.reduceAdd, Nat.reduceMul, Nat.reduceSub, reduceCtorEq, RC, Int.cast_ofNat_Int, hn, g0, g1, g5, g6, g7, g8, g9, hd4, hv1.idx, hv1.fld, hv1.ld0 (0, 0), hw.idx, hw.ld 0, getD_range, wrap_fit]
              refine ⟨q - 1, by omega, k + 1, _, by omega, rfl, rfl, ?_⟩
              rw [← hstep, decide_eq_true_eq]
              constructor
              · intro h5
                exact ⟨rfl, fun _ => h5⟩
              · rintro ⟨_, h5⟩
                exact h5 h4'
        · repeat first | (with_reducible first | refine Wp.seq ?_ | refine Wp.reg ?_ | refine Wp.block ?_ | refine Wp.skip ?_ | refine Wp.ret ?_ | refine Wp.exit ?_ | refine Wp.label ?_ | refine Wp.condG ?_) | simp (disch := omega) only [↓RP, RQ, TS, TR, ↓reduceIte, Nat.reduceEqDiff, Nat.reduceLT, Nat.reduceLeDiff, Int.reduceLT, Int.reduceLE, Int.reduceEq, Int.reduceAdd, Int.reduceSub, Int.reduceNeg, Int.reduceToNat, Nat.reduceAdd, Nat.reduceMul, Nat.reduceSub, reduceCtorEq, RC, Int.cast_ofNat_Int, hn, g0, g1, g5, g6, g7, g8, g9]
          refine ⟨b, rfl, ?_⟩
          rw [hb]
          have hke : k = es.length := by omega
          constructor
          · rintro ⟨h5, h6⟩
            refine ⟨h5, fun e he h7 => ?_⟩
            obtain ⟨j, hj, rfl⟩ := List.getElem_of_mem he
            have := h6 j (by omega)
            rw [List.getD_eq_getElem?_getD, List.getElem?_eq_getElem hj] at this
            exact this h7
          · rintro ⟨h5, h6⟩
            exact ⟨h5, fun j hj => h6 _ (getD_mem (0, 0) (by omega))⟩
      · clear hn g0 g1 g5 g6 g7
        rintro e l H3 ⟨rfl, rfl, hn, g0, g1, g5, g6, g7, b, g8, hb⟩
        cases b with
        | false =>
          have hnr : ¬ rdy es out i := fun hh => by have := hb.2 hh; cases this
          have hne : i ≠ x := fun hh => hnr (by rw [hh]; exact hrx)
          repeat first | (with_reducible first | refine Wp.seq ?_ | refine Wp.reg ?_ | refine Wp.block ?_ | refine Wp.skip ?_ | refine Wp.ret ?_ | refine Wp.exit ?_ | refine Wp.label ?_ | refine Wp.condG ?_) | simp (disch := omega) only [↓RP, RQ, TS, TR, ↓reduceIte, Nat.reduceEqDiff, Nat.reduceLT, Nat.reduceLeDiff, Int.reduceLT, Int.reduceLE, Int.reduceEq, Int.reduceAdd, Int.reduceSub, Int.reduceNeg, Int.reduceToNat, Nat.reduceAdd, Nat.reduceMul, Nat.reduceSub, reduceCtorEq, RC, Int.cast_ofNat_Int, hn, g0, g1, g5, g6, g7, g8, wrap_fit]
          exact ⟨m - 1, by omega, i + 1, by omega, rfl, by omega⟩
        | true =>
          have hri := hb.1 rfl
          have hie : i = x := by
            rcases Nat.lt_or_ge i x with h5 | h5
            · exact (hlx i h5 hri).elim
            · omega
          subst hie
          repeat first | (with_reducible first | refine Wp.seq ?_ | refine Wp.reg ?_ | refine Wp.block ?_ | refine Wp.skip ?_ | refine Wp.ret ?_ | refine Wp.exit ?_ | refine Wp.label ?_ | refine Wp.condG ?_) | simp (disch := omega) only [↓RP, RQ, TS, TR, ↓reduceIte, Nat.reduceEqDiff, Nat.reduceLT, Nat.reduceLeDiff, Int.reduceLT, Int.reduceLE, Int.reduceEq, Int.reduceAdd, Int.reduceSub, Int.reduceNeg, Int.reduceToNat, Nat.reduceAdd, Nat.reduceMul, Nat.reduceSub, reduceCtorEq, RC, Int.cast_ofNat_Int, hn, g0, g1, g5, g6, g7, g8, hw.idx]
          refine hS.eStoreE 1 rfl [_] rfl rfl tS4 (by simp) (by simp only [List.length_map, List.length_range, List.length_cons, List.length_nil]; omega) fun H4 hS => ?_
          simp only [List.nil_append, List.cons_append, List.append_nil, List.set_cons_zero, List.set_cons_succ, setMany_cons, setMany_nil, Nat.zero_add, Nat.mul_one, Nat.add_zero] at hS
          rw [dn_set] at hS
          repeat first | (with_reducible first | refine Wp.seq ?_ | refine Wp.reg ?_ | refine Wp.block ?_ | refine Wp.skip ?_ | refine Wp.ret ?_ | refine Wp.exit ?_ | refine Wp.label ?_ | refine Wp.condG ?_) | simp (disch := omega) only [↓RP, RQ, TS, TR, ↓reduceIte, Nat.reduceEqDiff, Nat.reduceLT, Nat.reduceLeDiff, Int.reduceLT, Int.reduceLE, Int.reduceEq, Int.reduceAdd, Int.reduceSub, Int.reduceNeg, Int.reduceToNat, Nat.reduceAdd, Nat.reduceMul, Nat.reduceSub, reduceCtorEq, RC, Int.cast_ofNat_Int, hn, g0, g1, g5, g6, g7]
          refine hS.eSlice [I i] tP29 tF29 rfl rfl (by simp [Value.cells]) rfl rfl (by decide) (by decide) fun y H5 hS => ?_
          repeat first | (with_reducible first | refine Wp.seq ?_ | refine Wp.reg ?_ | refine Wp.block ?_ | refine Wp.skip ?_ | refine Wp.ret ?_ | refine Wp.exit ?_ | refine Wp.label ?_ | refine Wp.condG ?_) | simp (disch := omega) only [↓RP, RQ, TS, TR, ↓reduceIte, Nat.reduceEqDiff, Nat.reduceLT, Nat.reduceLeDiff, Int.reduceLT, Int.reduceLE, Int.reduceEq, Int.reduceAdd, Int.reduceSub, Int.reduceNeg, Int.reduceToNat, Nat.reduceAdd, Nat.reduceMul, Nat.reduceSub, reduceCtorEq, RC, Int.cast_ofNat_Int, hn, g0, g1, g5, g6, g7]
          refine hS.eAppend 0 rfl (hS.rd 2 rfl) tP29 (by simp only [nts, List.length_map, List.length_cons, List.length_nil]; omega) fun ov' H6 hS => ?_
          simp only [List.nil_append, List.cons_append, List.append_nil, List.set_cons_zero, List.set_cons_succ, setMany_cons, setMany_nil, Nat.zero_add, Nat.mul_one, Nat.add_zero] at hS
          repeat first | (with_reducible first | refine Wp.seq ?_ | refine Wp.reg ?_ | refine Wp.block ?_ | refine Wp.skip ?_ | refine Wp.ret ?_ | refine Wp.exit ?_ | refine Wp.label ?_ | refine Wp.condG ?_) | simp (disch := omega) only [↓RP, RQ, TS, TR, ↓reduceIte, Nat.reduceEqDiff, Nat.reduceLT, Nat.reduceLeDiff, Int.reduceLT, Int.reduceLE, Int.reduceEq, Int.reduceAdd, Int.reduceSub, Int.reduceNeg, Int.reduceToNat, Nat.reduceAdd, Nat.reduceMul, Nat.reduceSub, reduceCtorEq, RC, Int.cast_ofNat_Int, hn, g0, g1, g5, g6, g7]
          have hS := hS.sub (os' := [⟨ov', 1, nts (out ++ [i])⟩, ⟨w, 1, dn N (out ++ [i])⟩]) (by
            rw [show nts (out ++ [i]) = nts out ++ [I i] from by simp [nts]]
            exact .cons_cons _ (.cons_cons _ (.cons _ (.refl _))))
          exact ⟨ov', rfl, hS⟩
    · clear hn g0 g1 g5 g6
      rintro e l H3 ⟨rfl, hn, g0, g1, g5, ov', g6, hS⟩
      repeat first | (with_reducible first | refine Wp.seq ?_ | refine Wp.reg ?_ | refine Wp.block ?_ | refine Wp.skip ?_ | refine Wp.ret ?_ | refine Wp.exit ?_ | refine Wp.label ?_ | refine Wp.condG ?_) | simp (disch := omega) only [↓RP, RQ, TS, TR, ↓reduceIte, Nat.reduceEqDiff, Nat.reduceLT, Nat.reduceLeDiff, Int.reduceLT, Int.reduceLE, Int.reduceEq, Int.reduceAdd, Int.reduceSub, Int.reduceNeg, Int.reduceToNat, Nat.reduceAdd, Nat.reduceMul, Nat.reduceSub, reduceCtorEq, RC, Int.cast_ofNat_Int, hn, g0, g1, g5, g6]
      refine ⟨n - 1, by omega, out ++ [x], ov', ?_, rfl, hT.step hxN hrx hlx, hS⟩
      rw [List.length_append]
      simp only [List.length_cons, List.length_nil]
      omega
  · repeat first | (with_reducible first | refine Wp.seq ?_ | refine Wp.reg ?_ | refine Wp.block ?_ | refine Wp.skip ?_ | refine Wp.ret ?_ | refine Wp.exit ?_ | refine Wp.label ?_ | refine Wp.condG ?_) | simp (disch := omega) only [↓RP, RQ, TS, TR, ↓reduceIte, Nat.reduceEqDiff, Nat.reduceLT, Nat.reduceLeDiff, Int.reduceLT, Int.reduceLE, Int.reduceEq, Int.reduceAdd, Int.reduceSub, Int.reduceNeg, Int.reduceToNat, Nat.reduceAdd, Nat.reduceMul, Nat.reduceSub, reduceCtorEq, RC, Int.cast_ofNat_Int, hn, g0, g1, g5, g6]
    exact ⟨out, hT, by have := nodup_le N out hT.nodup hT.lt; omega, hS.sub (by simp)⟩
end Go.Ds

namespace Go.Ds
open Go.Proofs Go.Plain
variable {H : Heap}

theorem refLongest_ok (N : Nat) (v : Value) (es : List (Nat × Nat)) (hv : Eg H v es) (hN : N ≤ 200) (he : es.length ≤ 1000) (hval : ∀ e ∈ es, e.1 < N ∧ e.2 < N) (top : List Nat) (hT : Top es N top) (hTN : top.length = N) :
    Fn Try.prog 24 [I N, v] H fun r H' => ∃ d : List Int, IsL es N d ∧ St Try.prog H H' [⟨r, 1, d.map (.int .i64)⟩] := by
  refine Fn.of_wp (fn := Try.f24) rfl rfl (by kernel_rfl) fun l hl => ?_
  have hn : l.length = 52 := by rw [hl]; rfl
  have g0 : get l 0 = I N := by rw [hl]; rfl
  have g1 : get l 1 = v := by rw [hl]; rfl
  clear hl
  repeat first | (with_reducible first | refine Wp.seq ?_ | refine Wp.reg ?_ | refine Wp.block ?_ | refine Wp.skip ?_ | refine Wp.ret ?_ | refine Wp.exit ?_ | refine Wp.label ?_ | refine Wp.condG ?_) | simp (disch := omega) only [↓RP, RQ, TS, TR, ↓reduceIte, Nat.reduceEqDiff, Nat.reduceLT, Nat.reduceLeDiff, Int.reduceLT, Int.reduceLE, Int.reduceEq, Int.reduceAdd, Int.reduceSub, Int.reduceNeg, Int.reduceToNat, Nat.reduceAdd, Nat.reduceMul, Nat.reduceSub, reduceCtorEq, RC, Int.cast_ofNat_Int, hn, g0, g1]
  refine (St.refl _ H).eMake1 N tM29 (by omega) fun w H2 hS => ?_
  simp only [List.nil_append, List.cons_append, List.append_nil, List.set_cons_zero, List.set_cons_succ, setMany_cons, setMany_nil, Nat.zero_add, Nat.mul_one, Nat.add_zero] at hS
  rw [show List.replicate N (Value.int .i64 0) = (List.replicate N (0 : Int)).map (.int .i64) from by simp] at hS
  repeat first | (with_reducible first | refine Wp.seq ?_ | refine Wp.reg ?_ | refine Wp.block ?_ | refine Wp.skip ?_ | refine Wp.ret ?_ | refine Wp.exit ?_ | refine Wp.label ?_ | refine Wp.condG ?_) | simp (disch := omega) only [↓RP, RQ, TS, TR, ↓reduceIte, Nat.reduceEqDiff, Nat.reduceLT, Nat.reduceLeDiff, Int.reduceLT, Int.reduceLE, Int.reduceEq, Int.reduceAdd, Int.reduceSub, Int.reduceNeg, Int.reduceToNat, Nat.reduceAdd, Nat.reduceMul, Nat.reduceSub, reduceCtorEq, RC, Int.cast_ofNat_Int, hn, g0, g1]
  refine Wp.loopN (fun n2 l H' => l.length = 52 ∧ get l 0 = I N ∧ get l 1 = v ∧ get l 5 = w ∧ ∃ (b : Bool) (d : List Int), get l 6 = .bool b ∧ n2 = 2 * slack N d + (if b = true then 1 else 0) ∧ Ls es N d ∧
      (b = false → ∀ e ∈ es, d.getD e.1 0 + 1 ≤ d.getD e.2 0) ∧ St Try.prog H H' [⟨w, 1, d.map (.int .i64)⟩]) (2 * slack N (List.replicate N 0) + 1) ?_ ?_
  · repeat first | (with_reducible first | refine Wp.seq ?_ | refine Wp.reg ?_ | refine Wp.block ?_ | refine Wp.skip ?_ | refine Wp.ret ?_ | refine Wp.exit ?_ | refine Wp.label ?_ | refine Wp.condG ?_) | simp (disch := omega) only [↓RP, RQ, TS, TR, ↓reduceIte, Nat.reduceEqDiff, Nat.reduceLT, Nat.reduceLeDiff, Int.reduceLT, Int.reduceLE, Int.reduceEq, Int.reduceAdd, Int.reduceSub, Int.reduceNeg, Int.reduceToNat, Nat.reduceAdd, Nat.reduceMul, Nat.reduceSub, reduceCtorEq, RC, Int.cast_ofNat_Int, hn, g0, g1]
    exact ⟨true, List.replicate N 0, rfl, rfl, .zero es N, (fun h => by cases h), hS⟩
  clear hS hn g0 g1
  rintro n2 l H' ⟨hn, g0, g1, g5, b, d, g6, hn2, hR, hb, hS⟩
  repeat first | (with_reducible first | refine Wp.seq ?_ | refine Wp.reg ?_ | refine Wp.block ?_ | refine Wp.skip ?_ | refine Wp.ret ?_ | refine Wp.exit ?_ | refine Wp.label ?_ | refine Wp.condG ?_) | simp (disch := omega) only [↓RP, RQ, TS, TR, ↓reduceIte, Nat.reduceEqDiff, Nat.reduceLT, Nat.reduceLeDiff, Int.reduceLT, Int.reduceLE, Int.reduceEq, Int.reduceAdd, Int.reduceSub, Int.reduceNeg, Int.reduceToNat, Nat.reduceAdd, Nat.reduceMul, Nat.reduceSub, reduceCtorEq, RC, Int.cast_ofNat_Int, hn, g0, g1, g5, g6]
  refine condW_bool (fun hbt => ?_) (fun hbf => ?_)
  · subst hbt
    repeat first | (with_reducible first | refine Wp.seq ?_ | refine Wp.reg ?_ | refine Wp.block ?_ | refine Wp.skip ?_ | refine Wp.ret ?_ | refine Wp.exit ?_ | refine Wp.label ?_ | refine Wp.condG ?_) | simp (disch := omega) only [↓RP, RQ, TS, TR, ↓reduceIte, Nat.reduceEqDiff, Nat.reduceLT, Nat.reduceLeDiff, Int.reduceLT, Int.reduceLE, Int.reduceEq, Int.reduceAdd, Int.reduceSub, Int.reduceNeg, Int.reduceToNat, Nat.reduceAdd, Nat.reduceMul, Nat.reduceSub, reduceCtorEq, RC, Int.cast_ofNat_Int, hn, g0, g1, g5, g6]
    refine Wp.loopN (fun n3 l H' => l.length = 52 ∧ get l 0 = I N ∧ get l 1 = v ∧ get l 5 = w ∧ ∃ (b : Bool) (d' : List Int) (k : Nat), n3 + k = es.length ∧ get l 7 = I k ∧ get l 6 = .bool b ∧ Ls es N d' ∧
        (b = false → d' = d ∧ ∀ j, j < k → d.getD (es.getD j (0, 0)).1 0 + 1 ≤ d.getD (es.getD j (0, 0)).2 0) ∧ (b = true → slack N d' < slack N d) ∧ St Try.prog H H' [⟨w, 1, d'.map (.int .i64)⟩]) es.length ?_ ?_
    · repeat first | (with_reducible first | refine Wp.seq ?_ | refine Wp.reg ?_ | refine Wp.block ?_ | refine Wp.skip ?_ | refine Wp.ret ?_ | refine Wp.exit ?_ | refine Wp.label ?_ | refine Wp.condG ?_) | simp (disch := omega) only [↓RP, RQ, TS, TR, ↓reduceIte, Nat.reduceEqDiff, Nat.reduceLT, Nat.reduceLeDiff, Int.reduceLT, Int.reduceLE, Int.reduceEq, Int.reduceAdd, Int.reduceSub, Int.reduceNeg, Int.reduceToNat, Nat.reduceAdd, Nat.reduceMul, Nat.reduceSub, reduceCtorEq, RC, Int.cast_ofNat_Int, hn, g0, g1, g5]
      exact ⟨false, d, 0, rfl, rfl, rfl, hR, fun _ => ⟨rfl, fun j hj => absurd hj (Nat.not_lt_zero _)⟩, (fun h => by cases h), hS⟩
    clear hS hn g0 g1 g5 g6
    rintro n3 l H' ⟨hn, g0, g1, g5, b, d', k, hk, g7, g6, hR', hbf, hbt, hS⟩
    have hv1 : Sl2 H' v _ _ es := hS.base hv
    have hw : Sl1 H' w (.int .i64) d' := hS.rd 0 rfl
    repeat first | (with_reducible first | refine Wp.seq ?_ | refine Wp.reg ?_ | refine Wp.block ?_ | refine Wp.skip ?_ | refine Wp.ret ?_ | refine Wp.exit ?_ | refine Wp.label ?_ | refine Wp.condG ?_) | simp (disch := omega) only [↓RP, RQ, TS, TR, ↓reduceIte, Nat.reduceEqDiff, Nat.reduceLT, Nat.reduceLeDiff, Int.reduceLT, Int.reduceLE, Int.reduceEq, Int.reduceAdd, Int.reduceSub, Int.reduceNeg, Int.reduceToNat, Nat.reduceAdd, Nat.reduceMul, Nat.reduceSub, reduceCtorEq, RC, Int.cast_ofNat_Int, hn, g0, g1, g5, g6, g7, hv1.len]
    refine condW_split (fun h3 => ?_) (fun h3 => ?_)
    · have hme := getD_mem (0, 0) (show k < es.length by omega)
      have hm := hval _ hme
      have hlen := hR'.len
      have hs1 := hR'.small hT hTN hm.1
      have hs2 := hR'.small hT hTN hm.2
      have hp1 := hR'.nonneg hm.1
      repeat first | (with_reducible first | refine Wp.seq ?_ | refine Wp.reg ?_ | refine Wp.block ?_ | refine Wp.skip ?_ | refine Wp.ret ?_ | refine Wp.exit ?_ | refine Wp.label ?_ | refine Wp.condG ?_) | with_reducible refine Wp.drw hmix (by kernel_rfl) ?_ | simp (disch := omega) only [↓RP, RQ, TS, TR, ↓reduceIte, Nat.reduceEqDiff, Nat.reduceLT, Nat.reduceLeDiff, Int.reduceLT, Int.reduceLE, Int.reduceEq, Int.reduceAdd, Int.reduceSub, Int.reduceNeg, Int.reduceToNat, Nat.reduceAdd, Nat.reduceMul, Nat.reduceSub, reduceCtorEq, RC, Int.cast_ofNat_Int, hn, g0, g1, g5, g6, g7, hv1.idx, hv1.fld, hv1.ld0 (0, 0), hv1.ld1 (0, 0), hw.idx, hw.ld 0, wrap_fit]
      refine condW_split (fun h4 => ?_) (fun h4 => ?_)
      · have hst := hR'.step hme hm.1 hm.2
        have hsl := slack_set N d' (es.getD k (0, 0)).2 (d'.getD (es.getD k (0, 0)).1 0 + 1) (by omega) (by omega) (by omega)
        repeat first | (with_reducible first | refine Wp.seq ?_ | refine Wp.reg ?_ | refine Wp.block ?_ | refine Wp.skip ?_ | refine Wp.ret ?_ | refine Wp.exit ?_ | refine Wp.label ?_ | refine Wp.condG ?_) | with_reducible refine Wp.drw hmix (by kernel_rfl) ?_ | simp (disch := omega) only [↓RP, RQ, TS, TR, ↓reduceIte, Nat.reduceEqDiff, Nat.reduceLT, Nat.reduceLeDiff, Int.reduceLT, Int.reduceLE, Int.reduceEq, Int.reduceAdd, Int.reduceSub, Int.reduceNeg, Int.reduceToNat, Nat.reduceAdd, Nat.reduceMul, Nat.reduceSub, reduceCtorEq, RC, Int.cast_ofNat_Int, hn, g0, g1, g5, g6, g7, hv1.idx, hv1.fld, hv1.ld0 (0, 0), hv1.ld1 (0, 0), hw.idx, hw.ld 0, wrap_fit]
        refine hS.eStoreE 0 rfl [_] rfl rfl tS3 (by simp) (by simp only [List.length_map, List.length_cons, List.length_nil]; omega) fun H5 hS => ?_
        simp only [List.nil_append, List.cons_append, List.append_nil, List.set_cons_zero, List.set_cons_succ, setMany_cons, setMany_nil, Nat.zero_add, Nat.mul_one, Nat.add_zero] at hS
        rw [← List.map_set] at hS
        repeat first | (with_reducible first | refine Wp.seq ?_ | refine Wp.reg ?_ | refine Wp.block ?_ | refine Wp.skip ?_ | refine Wp.ret ?_ | refine Wp.exit ?_ | refine Wp.label ?_ | refine Wp.condG ?_) | simp (disch := omega) only [↓RP, RQ, TS, TR, ↓reduceIte, Nat.reduceEqDiff, Nat.reduceLT, Nat.reduceLeDiff, Int.reduceLT, Int.reduceLE, Int.reduceEq, Int.reduceAdd, Int.reduceSub, Int.reduceNeg, Int.reduceToNat, Nat.reduceAdd, Nat.reduceMul, Nat.reduceSub, reduceCtorEq, RC, Int.cast_ofNat_Int, hn, g0, g1, g5, g7, wrap_fit]
        refine ⟨n3 - 1, by omega, true, _, k + 1, by omega, rfl, rfl, hst, (fun h => by cases h), (fun _ => ?_), hS⟩
        cases b with
        | true => exact Nat.lt_trans hsl (hbt rfl)
        | false => rw [(hbf rfl).1] at hsl ⊢; exact hsl
      · repeat first | (with_reducible first | refine Wp.seq ?_ | refine Wp.reg ?_ | refine Wp.block ?_ | refine Wp.skip ?_ | refine Wp.ret ?_ | refine Wp.exit ?_ | refine Wp.label ?_ | refine Wp.condG ?_) | simp (disch := omega) only [↓RP, RQ, TS, TR, ↓reduceIte, Nat.reduceEqDiff, Nat.reduceLT, Nat.reduceLeDiff, Int.reduceLT, Int.reduceLE, Int.reduceEq, Int.reduceAdd, Int.reduceSub, Int.reduceNeg, Int.reduceToNat, Nat.reduceAdd, Nat.reduceMul, Nat.reduceSub, reduceCtorEq, RC, Int.cast_ofNat_Int, hn, g0, g1, g5, g6, g7, wrap_fit]
        refine ⟨n3 - 1, by omega, b, d', k + 1, by omega, rfl, rfl, hR', (fun h => ?_), hbt, hS⟩
        obtain ⟨e1, e2⟩ := hbf h
        subst e1
        refine ⟨rfl, fun j hj => ?_⟩
        by_cases e : j = k
        · subst e; omega
        · exact e2 j (by omega)
    · repeat first | (with_reducible first | refine Wp.seq ?_ | refine Wp.reg ?_ | refine Wp.block ?_ | refine Wp.skip ?_ | refine Wp.ret ?_ | refine Wp.exit ?_ | refine Wp.label ?_ | refine Wp.condG ?_) | simp (disch := omega) only [↓RP, RQ, TS, TR, ↓reduceIte, Nat.reduceEqDiff, Nat.reduceLT, Nat.reduceLeDiff, Int.reduceLT, Int.reduceLE, Int.reduceEq, Int.reduceAdd, Int.reduceSub, Int.reduceNeg, Int.reduceToNat, Nat.reduceAdd, Nat.reduceMul, Nat.reduceSub, reduceCtorEq, RC, Int.cast_ofNat_Int, hn, g0, g1, g5, g6, g7]
      cases b with
      | true =>
        have := hbt rfl
        refine ⟨_, ?_, true, d', rfl, rfl, hR', (fun h => by cases h), hS⟩
        rw [hn2]
        simp
        omega
      | false =>
        obtain ⟨e1, e2⟩ := hbf rfl
        subst e1
        refine ⟨_, ?_, false, d', rfl, rfl, hR', (fun _ e he => ?_), hS⟩
        · rw [hn2]; simp
        · obtain ⟨j, hj, rfl⟩ := List.getElem_of_mem he
          have := e2 j (by omega)
          have hje : es.getD j (0, 0) = es[j] := by rw [List.getD_eq_getElem?_getD, List.getElem?_eq_getElem hj]; rfl
          rw [hje] at this
          exact this
  · subst hbf
    repeat first | (with_reducible first | refine Wp.seq ?_ | refine Wp.reg ?_ | refine Wp.block ?_ | refine Wp.skip ?_ | refine Wp.ret ?_ | refine Wp.exit ?_ | refine Wp.label ?_ | refine Wp.condG ?_) | simp (disch := omega) only [↓RP, RQ, TS, TR, ↓reduceIte, Nat.reduceEqDiff, Nat.reduceLT, Nat.reduceLeDiff, Int.reduceLT, Int.reduceLE, Int.reduceEq, Int.reduceAdd, Int.reduceSub, Int.reduceNeg, Int.reduceToNat, Nat.reduceAdd, Nat.reduceMul, Nat.reduceSub, reduceCtorEq, RC, Int.cast_ofNat_Int, hn, g0, g1, g5, g6]
    exact ⟨d, ⟨hR, hb rfl⟩, hS⟩
end Go.Ds

namespace Go.Ds
open Go.Proofs Go.Plain
variable {H : Heap} {P : Program}

/-- The greater of two. -/
noncomputable def maxV (P : Program) (ts : Array TypeId) (ty : TypeId) (x y : Value) : Option Value := (plainD P ⟨none, .call { callee := .builtin .max, args := #[.tmp 0, .tmp 1], argTypes := ts }, ty, "", #[], none⟩ [x, y] .nil).map (·.1)
theorem opW_max (d ty pos af g) (ts : Array TypeId) (p q : Tmp) (l : List Value) (K : Value → Heap → Prop) :
    opW P ⟨d, .call { callee := .builtin .max, args := #[.tmp p, .tmp q], argTypes := ts }, ty, pos, af, g⟩ l H K = opdW (.tmp p) l fun x => opdW (.tmp q) l fun y => bindV (maxV P ts ty x y) fun v => K v H := by
  have h : opD P ⟨d, .call { callee := .builtin .max, args := #[.tmp p, .tmp q], argTypes := ts }, ty, pos, af, g⟩ l H = (maxV P ts ty (ev l (.tmp p)) (ev l (.tmp q))).map fun v => (v, H) :=
    plain_fst (P := P) ⟨d, .call { callee := .builtin .max, args := #[.tmp p, .tmp q], argTypes := ts }, ty, pos, af, g⟩ ⟨none, .call { callee := .builtin .max, args := #[.tmp 0, .tmp 1], argTypes := ts }, ty, "", #[], none⟩ l [ev l (.tmp p), ev l (.tmp q)] H rfl (by kernel_rfl)
  have h2 : bindW ((maxV P ts ty (ev l (.tmp p)) (ev l (.tmp q))).map fun v => (v, H)) K = bindV (maxV P ts ty (ev l (.tmp p)) (ev l (.tmp q))) fun v => K v H := by cases maxV P ts ty (ev l (.tmp p)) (ev l (.tmp q)) <;> rfl
  simp only [opW, h, opdW, Op.operands, Call.operands, h2]
  simp [and_assoc]
theorem maxV_int (ts : Array TypeId) (ty : TypeId) (a b : Int) : maxV P ts ty (I a) (I b) = some (I (max a b)) := by
  have h : maxV P ts ty (I a) (I b) = some (I (if b > a then b else a)) := by kernel_rfl
  rw [h]
  congr 2
  split <;> omega

theorem longest_ok (N : Nat) (v : Value) (es : List (Nat × Nat)) (hv : Eg H v es) (hN : N ≤ 200) (he : es.length ≤ 1000) (hval : ∀ e ∈ es, e.1 < N ∧ e.2 < N) :
    Fn Try.prog 22 [.agg #[I N, v]] H fun r H' => ∃ out : List Nat, Top es N out ∧ ((out.length = N ∧ ∃ (w : Value) (d : List Int), IsL es N d ∧ r = .tuple #[w, I 0] ∧ St Try.prog H H' [⟨w, 1, d.map (.int .i64)⟩]) ∨
      (out.length < N ∧ (∀ i, i < N → ¬ rdy es out i) ∧ r = .tuple #[.slice none 0 0, I 22] ∧ St Try.prog H H' [])) := by
  refine Fn.of_wp (fn := Try.f22) rfl rfl (by kernel_rfl) fun l hl => ?_
  have hn : l.length = 53 := by rw [hl]; rfl
  have g0 : get l 0 = .agg #[I N, v] := by rw [hl]; rfl
  clear hl
  repeat first | (with_reducible first | refine Wp.seq ?_ | refine Wp.reg ?_ | refine Wp.block ?_ | refine Wp.skip ?_ | refine Wp.ret ?_ | refine Wp.exit ?_ | refine Wp.label ?_ | refine Wp.condG ?_) | simp (disch := omega) only [↓RP, RQ, TS, TR, ↓reduceIte, Nat.reduceEqDiff, Nat.reduceLT, Nat.reduceLeDiff, Int.reduceLT, Int.reduceLE, Int.reduceEq, Int.reduceAdd, Int.reduceSub, Int.reduceNeg, Int.reduceToNat, Nat.reduceAdd, Nat.reduceMul, Nat.reduceSub, reduceCtorEq, RC, Int.cast_ofNat_Int, hn, g0]
  refine (St.refl _ H).eNew 2 [I N, v] rfl rfl (by simp [hv.one]; rfl) tS27 fun A H1 hS => ?_
  repeat first | (with_reducible first | refine Wp.seq ?_ | refine Wp.reg ?_ | refine Wp.block ?_ | refine Wp.skip ?_ | refine Wp.ret ?_ | refine Wp.exit ?_ | refine Wp.label ?_ | refine Wp.condG ?_) | simp (disch := omega) only [↓RP, RQ, TS, TR, ↓reduceIte, Nat.reduceEqDiff, Nat.reduceLT, Nat.reduceLeDiff, Int.reduceLT, Int.reduceLE, Int.reduceEq, Int.reduceAdd, Int.reduceSub, Int.reduceNeg, Int.reduceToNat, Nat.reduceAdd, Nat.reduceMul, Nat.reduceSub, reduceCtorEq, RC, Int.cast_ofNat_Int, hn, g0, hS.ldA 0 rfl]
  refine callFW_of (order_ok N v es (hS.base hv) hN he hval) ?_
  rintro r H2 ⟨out, w, hT, ⟨hoN, rfl, hS2⟩ | ⟨hlt, hst, rfl, hS2⟩⟩
  · have hS := hS.trans hS2
    simp only [List.nil_append, List.cons_append, List.append_nil, List.set_cons_zero, List.set_cons_succ, setMany_cons, setMany_nil, Nat.zero_add, Nat.mul_one, Nat.add_zero] at hS
    repeat first | (with_reducible first | refine Wp.seq ?_ | refine Wp.reg ?_ | refine Wp.block ?_ | refine Wp.skip ?_ | refine Wp.ret ?_ | refine Wp.exit ?_ | refine Wp.label ?_ | refine Wp.condG ?_) | simp (disch := omega) only [↓RP, RQ, TS, TR, ↓reduceIte, Nat.reduceEqDiff, Nat.reduceLT, Nat.reduceLeDiff, Int.reduceLT, Int.reduceLE, Int.reduceEq, Int.reduceAdd, Int.reduceSub, Int.reduceNeg, Int.reduceToNat, Nat.reduceAdd, Nat.reduceMul, Nat.reduceSub, reduceCtorEq, RC, Int.cast_ofNat_Int, hn, g0, hS.ld 0 rfl]
    refine hS.eMake1 N tM29 (by omega) fun w2 H3 hS => ?_
    repeat first | (with_reducible first | refine Wp.seq ?_ | refine Wp.reg ?_ | refine Wp.block ?_ | refine Wp.skip ?_ | refine Wp.ret ?_ | refine Wp.exit ?_ | refine Wp.label ?_ | refine Wp.condG ?_) | simp (disch := omega) only [↓RP, RQ, TS, TR, ↓reduceIte, Nat.reduceEqDiff, Nat.reduceLT, Nat.reduceLeDiff, Int.reduceLT, Int.reduceLE, Int.reduceEq, Int.reduceAdd, Int.reduceSub, Int.reduceNeg, Int.reduceToNat, Nat.reduceAdd, Nat.reduceMul, Nat.reduceSub, reduceCtorEq, RC, Int.cast_ofNat_Int, hn, g0]
    refine hS.eNew 1 [.slice none 0 0] rfl rfl rfl tS29 fun D H4 hS => ?_
    have hw := (hS.rd 2 rfl).cells
    repeat first | (with_reducible first | refine Wp.seq ?_ | refine Wp.reg ?_ | refine Wp.block ?_ | refine Wp.skip ?_ | refine Wp.ret ?_ | refine Wp.exit ?_ | refine Wp.label ?_ | refine Wp.condG ?_) | simp (disch := omega) only [↓RP, RQ, TS, TR, ↓reduceIte, Nat.reduceEqDiff, Nat.reduceLT, Nat.reduceLeDiff, Int.reduceLT, Int.reduceLE, Int.reduceEq, Int.reduceAdd, Int.reduceSub, Int.reduceNeg, Int.reduceToNat, Nat.reduceAdd, Nat.reduceMul, Nat.reduceSub, reduceCtorEq, RC, Int.cast_ofNat_Int, hn, g0]
    refine hS.eStore 3 rfl [w2] (by rw [hw.1]) (by simp [hw.2.1]) tS29 (by simp) fun H5 hS => ?_
    simp only [List.nil_append, List.cons_append, List.append_nil, List.set_cons_zero, List.set_cons_succ, setMany_cons, setMany_nil, Nat.zero_add, Nat.mul_one, Nat.add_zero] at hS
    rw [show List.replicate N (Value.int .i64 0) = (List.replicate N (0 : Int)).map (.int .i64) from by simp] at hS
    have hov : Sl1 H5 w (fun n : Nat => I n) out := hS.rd 1 rfl
    repeat first | (with_reducible first | refine Wp.seq ?_ | refine Wp.reg ?_ | refine Wp.block ?_ | refine Wp.skip ?_ | refine Wp.ret ?_ | refine Wp.exit ?_ | refine Wp.label ?_ | refine Wp.condG ?_) | simp (disch := omega) only [↓RP, RQ, TS, TR, ↓reduceIte, Nat.reduceEqDiff, Nat.reduceLT, Nat.reduceLeDiff, Int.reduceLT, Int.reduceLE, Int.reduceEq, Int.reduceAdd, Int.reduceSub, Int.reduceNeg, Int.reduceToNat, Nat.reduceAdd, Nat.reduceMul, Nat.reduceSub, reduceCtorEq, RC, Int.cast_ofNat_Int, hn, g0, hov.len]
    refine Wp.loopN (fun n l H' => l.length = 53 ∧ get l 1 = ptr A 0 2 ∧ get l 6 = ptr D 0 1 ∧ get l 22 = w ∧ get l 23 = I out.length ∧ ∃ (i : Nat) (d : List Int), n + i = out.length ∧ get l 24 = I i ∧ Ls es N d ∧
      (∀ e ∈ es, e.1 ∈ out.take i → d.getD e.1 0 + 1 ≤ d.getD e.2 0) ∧
      St Try.prog H H' [⟨ptr A 0 2, 0, [I N, v]⟩, ⟨w, 1, nts out⟩, ⟨w2, 1, d.map (.int .i64)⟩, ⟨ptr D 0 1, 0, [w2]⟩]) out.length ?_ ?_
    · repeat first | (with_reducible first | refine Wp.seq ?_ | refine Wp.reg ?_ | refine Wp.block ?_ | refine Wp.skip ?_ | refine Wp.ret ?_ | refine Wp.exit ?_ | refine Wp.label ?_ | refine Wp.condG ?_) | simp (disch := omega) only [↓RP, RQ, TS, TR, ↓reduceIte, Nat.reduceEqDiff, Nat.reduceLT, Nat.reduceLeDiff, Int.reduceLT, Int.reduceLE, Int.reduceEq, Int.reduceAdd, Int.reduceSub, Int.reduceNeg, Int.reduceToNat, Nat.reduceAdd, Nat.reduceMul, Nat.reduceSub, reduceCtorEq, RC, Int.cast_ofNat_Int, hn, g0]
      exact ⟨0, _, rfl, rfl, .zero es N, (fun e _ h => by cases h), hS⟩
    clear hS hS2 hn g0 hov hw
    rintro n l H' ⟨hn, g1, g6, g22, g23, i, d, hi, g24, hL, hold, hS⟩
    have hov : Sl1 H' w (fun n : Nat => I n) out := hS.rd 1 rfl
    repeat first | (with_reducible first | refine Wp.seq ?_ | refine Wp.reg ?_ | refine Wp.block ?_ | refine Wp.skip ?_ | refine Wp.ret ?_ | refine Wp.exit ?_ | refine Wp.label ?_ | refine Wp.condG ?_) | simp (disch := omega) only [↓RP, RQ, TS, TR, ↓reduceIte, Nat.reduceEqDiff, Nat.reduceLT, Nat.reduceLeDiff, Int.reduceLT, Int.reduceLE, Int.reduceEq, Int.reduceAdd, Int.reduceSub, Int.reduceNeg, Int.reduceToNat, Nat.reduceAdd, Nat.reduceMul, Nat.reduceSub, reduceCtorEq, RC, Int.cast_ofNat_Int, hn, g1, g6, g22, g23, g24]
    refine condW_split (fun h => ?_) (fun h => ?_)
    · have hil : i < out.length := by omega
      obtain ⟨hxN, hrx⟩ := hT.at hil
      repeat first | (with_reducible first | refine Wp.seq ?_ | refine Wp.reg ?_ | refine Wp.block ?_ | refine Wp.skip ?_ | refine Wp.ret ?_ | refine Wp.exit ?_ | refine Wp.label ?_ | refine Wp.condG ?_) | simp (disch := omega) only [↓RP, RQ, TS, TR, ↓reduceIte, Nat.reduceEqDiff, Nat.reduceLT, Nat.reduceLeDiff, Int.reduceLT, Int.reduceLE, Int.reduceEq, Int.reduceAdd, Int.reduceSub, Int.reduceNeg, Int.reduceToNat, Nat.reduceAdd, Nat.reduceMul, Nat.reduceSub, reduceCtorEq, RC, Int.cast_ofNat_Int, hn, g1, g6, g22, g23, g24, hov.idx, hov.ld 0]
      generalize hxe : out.getD i 0 = x at hxN hrx ⊢
      refine hS.eNew 1 [I 0] rfl rfl rfl tS3 fun C H2 hS => ?_
      repeat first | (with_reducible first | refine Wp.seq ?_ | refine Wp.reg ?_ | refine Wp.block ?_ | refine Wp.skip ?_ | refine Wp.ret ?_ | refine Wp.exit ?_ | refine Wp.label ?_ | refine Wp.condG ?_) | simp (disch := omega) only [↓RP, RQ, TS, TR, ↓reduceIte, Nat.reduceEqDiff, Nat.reduceLT, Nat.reduceLeDiff, Int.reduceLT, Int.reduceLE, Int.reduceEq, Int.reduceAdd, Int.reduceSub, Int.reduceNeg, Int.reduceToNat, Nat.reduceAdd, Nat.reduceMul, Nat.reduceSub, reduceCtorEq, RC, Int.cast_ofNat_Int, hn, g1, g6, g22, g23, g24]
      refine hS.eStore 4 rfl [_] rfl rfl tS3 (by simp) fun H3 hS => ?_
      simp only [List.nil_append, List.cons_append, List.append_nil, List.set_cons_zero, List.set_cons_succ, setMany_cons, setMany_nil, Nat.zero_add, Nat.mul_one, Nat.add_zero] at hS
      repeat first | (with_reducible first | refine Wp.seq ?_ | refine Wp.reg ?_ | refine Wp.block ?_ | refine Wp.skip ?_ | refine Wp.ret ?_ | refine Wp.exit ?_ | refine Wp.label ?_ | refine Wp.condG ?_) | simp (disch := omega) only [↓RP, RQ, TS, TR, ↓reduceIte, Nat.reduceEqDiff, Nat.reduceLT, Nat.reduceLeDiff, Int.reduceLT, Int.reduceLE, Int.reduceEq, Int.reduceAdd, Int.reduceSub, Int.reduceNeg, Int.reduceToNat, Nat.reduceAdd, Nat.reduceMul, Nat.reduceSub, reduceCtorEq, RC, Int.cast_ofNat_Int, hn, g1, g6, g22, g23, g24, hS.ldA 0 rfl, hS.ld 4 rfl]
      refine callFW_of (out1_ok N x v hv.one) ?_
      rintro r H6 ⟨Ag, An, rfl, hS2⟩
      have hS := hS.trans hS2
      simp only [List.nil_append, List.cons_append, List.append_nil, List.set_cons_zero, List.set_cons_succ, setMany_cons, setMany_nil, Nat.zero_add, Nat.mul_one, Nat.add_zero] at hS
      repeat first | (with_reducible first | refine Wp.seq ?_ | refine Wp.reg ?_ | refine Wp.block ?_ | refine Wp.skip ?_ | refine Wp.ret ?_ | refine Wp.exit ?_ | refine Wp.label ?_ | refine Wp.condG ?_) | simp (disch := omega) only [↓RP, RQ, TS, TR, ↓reduceIte, Nat.reduceEqDiff, Nat.reduceLT, Nat.reduceLeDiff, Int.reduceLT, Int.reduceLE, Int.reduceEq, Int.reduceAdd, Int.reduceSub, Int.reduceNeg, Int.reduceToNat, Nat.reduceAdd, Nat.reduceMul, Nat.reduceSub, reduceCtorEq, RC, Int.cast_ofNat_Int, hn, g1, g6, g22, g23, g24]
      refine Wp.slots fun l' hl' => ?_
      have hn' : l'.length = 53 := by rw [hl']; simp (disch := omega) only [↓RP, RQ, TS, TR, ↓reduceIte, Nat.reduceEqDiff, Nat.reduceLT, Nat.reduceLeDiff, Int.reduceLT, Int.reduceLE, Int.reduceEq, Int.reduceAdd, Int.reduceSub, Int.reduceNeg, Int.reduceToNat, Nat.reduceAdd, Nat.reduceMul, Nat.reduceSub, reduceCtorEq, RC, Int.cast_ofNat_Int, hn]
      have g1' : get l' 1 = ptr A 0 2 := by rw [hl']; simp (disch := omega) only [↓RP, RQ, TS, TR, ↓reduceIte, Nat.reduceEqDiff, Nat.reduceLT, Nat.reduceLeDiff, Int.reduceLT, Int.reduceLE, Int.reduceEq, Int.reduceAdd, Int.reduceSub, Int.reduceNeg, Int.reduceToNat, Nat.reduceAdd, Nat.reduceMul, Nat.reduceSub, reduceCtorEq, RC, Int.cast_ofNat_Int, hn, g1]
      have g6' : get l' 6 = ptr D 0 1 := by rw [hl']; simp (disch := omega) only [↓RP, RQ, TS, TR, ↓reduceIte, Nat.reduceEqDiff, Nat.reduceLT, Nat.reduceLeDiff, Int.reduceLT, Int.reduceLE, Int.reduceEq, Int.reduceAdd, Int.reduceSub, Int.reduceNeg, Int.reduceToNat, Nat.reduceAdd, Nat.reduceMul, Nat.reduceSub, reduceCtorEq, RC, Int.cast_ofNat_Int, hn, g6]
      have g8' : get l' 8 = ptr C 0 1 := by rw [hl']; simp (disch := omega) only [↓RP, RQ, TS, TR, ↓reduceIte, Nat.reduceEqDiff, Nat.reduceLT, Nat.reduceLeDiff, Int.reduceLT, Int.reduceLE, Int.reduceEq, Int.reduceAdd, Int.reduceSub, Int.reduceNeg, Int.reduceToNat, Nat.reduceAdd, Nat.reduceMul, Nat.reduceSub, reduceCtorEq, RC, Int.cast_ofNat_Int, hn]
      have g22' : get l' 22 = w := by rw [hl']; simp (disch := omega) only [↓RP, RQ, TS, TR, ↓reduceIte, Nat.reduceEqDiff, Nat.reduceLT, Nat.reduceLeDiff, Int.reduceLT, Int.reduceLE, Int.reduceEq, Int.reduceAdd, Int.reduceSub, Int.reduceNeg, Int.reduceToNat, Nat.reduceAdd, Nat.reduceMul, Nat.reduceSub, reduceCtorEq, RC, Int.cast_ofNat_Int, hn, g22]
      have g23' : get l' 23 = I out.length := by rw [hl']; simp (disch := omega) only [↓RP, RQ, TS, TR, ↓reduceIte, Nat.reduceEqDiff, Nat.reduceLT, Nat.reduceLeDiff, Int.reduceLT, Int.reduceLE, Int.reduceEq, Int.reduceAdd, Int.reduceSub, Int.reduceNeg, Int.reduceToNat, Nat.reduceAdd, Nat.reduceMul, Nat.reduceSub, reduceCtorEq, RC, Int.cast_ofNat_Int, hn, g23]
      have g24' : get l' 24 = I i := by rw [hl']; simp (disch := omega) only [↓RP, RQ, TS, TR, ↓reduceIte, Nat.reduceEqDiff, Nat.reduceLT, Nat.reduceLeDiff, Int.reduceLT, Int.reduceLE, Int.reduceEq, Int.reduceAdd, Int.reduceSub, Int.reduceNeg, Int.reduceToNat, Nat.reduceAdd, Nat.reduceMul, Nat.reduceSub, reduceCtorEq, RC, Int.cast_ofNat_Int, hn, g24]
      have g30' : get l' 30 = .func (.func 50) #[] [ptr Ag 0 2, ptr An 0 1].toArray := by rw [hl']; simp (disch := omega) only [↓RP, RQ, TS, TR, ↓reduceIte, Nat.reduceEqDiff, Nat.reduceLT, Nat.reduceLeDiff, Int.reduceLT, Int.reduceLE, Int.reduceEq, Int.reduceAdd, Int.reduceSub, Int.reduceNeg, Int.reduceToNat, Nat.reduceAdd, Nat.reduceMul, Nat.reduceSub, reduceCtorEq, RC, Int.cast_ofNat_Int, hn]
      clear hl' hn g1 g6 g22 g23 g24 hS2 hov
      refine Wp.rangeR g30' fun r hst hpd htm hps has hbd => ?_
      have hreq : ({ r with state := .ready, pending := none } : Loop) = r := by
        cases r
        simp only at hst hpd
        subst hst hpd
        rfl
      have hLp := Lp.enter hS r
      generalize H6.cons (.loop r) = Hc at hLp ⊢
      generalize H6.length = L at hLp ⊢
      clear hS
      have hj0 : Lj es N (out.take i) x 0 d := ⟨hL, hold, (fun e h _ => by cases h)⟩
      refine (out_ok N x v es he Ag An (.func (.yield L) #[] #[])
        (fun j H1 => ∃ dd, Lj es N (out.take i) x j dd ∧ Lp Try.prog H L r H1 [⟨ptr A 0 2, 0, [I N, v]⟩, ⟨w, 1, nts out⟩, ⟨w2, 1, dd.map (.int .i64)⟩, ⟨ptr D 0 1, 0, [w2]⟩, ⟨ptr C 0 1, 0, [I x]⟩, ⟨ptr Ag 0 2, 0, [I N, v]⟩, ⟨ptr An 0 1, 0, [I x]⟩])
        (fun _ => False) ⟨_, hj0, hLp⟩ ?_ ?_ ?_ ?_).mono ?_
      · rintro j H1 ⟨dd, _, h1⟩
        exact ⟨h1.st.var 5 rfl, h1.st.var 6 rfl, h1.st.base hv⟩
      · rintro j H1 H2 ⟨dd, h1, h2⟩ h3
        exact ⟨dd, h1, by simpa using h2.ext h3⟩
      · rintro j H1 hj hne ⟨dd, h1, h2⟩
        exact ⟨dd, h1.skip hj hne, h2⟩
      · rintro j H1 hj hja ⟨dd, hJ, h1⟩
        have hme := getD_mem (0, 0) hj
        have hm := hval _ hme
        have ht1 : (es.getD j (0, 0)).2 ≠ x := by
          intro hh
          have := hrx.2 _ hme hh
          rw [hja] at this
          exact hrx.1 this
        have ht2 : (es.getD j (0, 0)).2 ∉ out.take i := by
          intro hh
          have := (hT.take i).pred _ hme hh
          rw [hja] at this
          exact hrx.1 this
        have hjl := hJ.len
        have hs1 := hJ.toLs.small hT hoN hxN
        have hs2 := hJ.toLs.nonneg hxN
        have hJ2 := hJ.top hj hja hval ht1 ht2
        refine callW_yield h1.get (by rw [hps]; rfl) hst ?_
        refine Wp.of_eq (l := put l' (some 31) (I j)) has (by rw [hps, htm]; exact (setL_eq ..).symm) ?_
        repeat first | (with_reducible first | refine Wp.seq ?_ | refine Wp.reg ?_ | refine Wp.block ?_ | refine Wp.skip ?_ | refine Wp.ret ?_ | refine Wp.exit ?_ | refine Wp.label ?_ | refine Wp.condG ?_) | simp (disch := omega) only [↓RP, RQ, TS, TR, ↓reduceIte, Nat.reduceEqDiff, Nat.reduceLT, Nat.reduceLeDiff, Int.reduceLT, Int.reduceLE, Int.reduceEq, Int.reduceAdd, Int.reduceSub, Int.reduceNeg, Int.reduceToNat, Nat.reduceAdd, Nat.reduceMul, Nat.reduceSub, reduceCtorEq, RC, Int.cast_ofNat_Int, hn']
        refine ⟨r, h1.get, hst, ?_⟩
        have hB := h1.set (fun h => h) { r with state := .busy }
        generalize hset H1 L (.loop { r with state := .busy }) = Hb at hB ⊢
        refine Wp.of_eq hbd rfl ?_
        have hS := hB.st.rebase
        have hv1 : Sl2 Hb v _ _ es := hB.st.base hv
        have hd1 : Sl1 Hb w2 (.int .i64) dd := hS.rd 2 rfl
        repeat first | (with_reducible first | refine Wp.seq ?_ | refine Wp.reg ?_ | refine Wp.block ?_ | refine Wp.skip ?_ | refine Wp.ret ?_ | refine Wp.exit ?_ | refine Wp.label ?_ | refine Wp.condG ?_) | with_reducible refine Wp.drw hmix (by kernel_rfl) ?_ | simp (disch := omega) only [↓RP, RQ, TS, TR, ↓reduceIte, Nat.reduceEqDiff, Nat.reduceLT, Nat.reduceLeDiff, Int.reduceLT, Int.reduceLE, Int.reduceEq, Int.reduceAdd, Int.reduceSub, Int.reduceNeg, Int.reduceToNat, Nat.reduceAdd, Nat.reduceMul, Nat.reduceSub, reduceCtorEq, RC, Int.cast_ofNat_Int, hn', g1', g6', g8', hS.ld 0 rfl, hS.ld 3 rfl, hS.ld 4 rfl, hv1.idx, hv1.fld, hv1.ld1 (0, 0), hd1.idx, hd1.ld 0, ↓opW_max, maxV_int, wrap_fit]
        refine hS.eStoreE 2 rfl [_] rfl rfl tS3 (by simp) (by simp only [List.length_map, List.length_cons, List.length_nil]; omega) fun H8 hS => ?_
        simp only [List.nil_append, List.cons_append, List.append_nil, List.set_cons_zero, List.set_cons_succ, setMany_cons, setMany_nil, Nat.zero_add, Nat.mul_one, Nat.add_zero] at hS
        rw [← List.map_set] at hS
        repeat first | (with_reducible first | refine Wp.seq ?_ | refine Wp.reg ?_ | refine Wp.block ?_ | refine Wp.skip ?_ | refine Wp.ret ?_ | refine Wp.exit ?_ | refine Wp.label ?_ | refine Wp.condG ?_) | simp (disch := omega) only [↓RP, RQ, TS, TR, ↓reduceIte, Nat.reduceEqDiff, Nat.reduceLT, Nat.reduceLeDiff, Int.reduceLT, Int.reduceLE, Int.reduceEq, Int.reduceAdd, Int.reduceSub, Int.reduceNeg, Int.reduceToNat, Nat.reduceAdd, Nat.reduceMul, Nat.reduceSub, reduceCtorEq, RC, Int.cast_ofNat_Int, hn', g1', g6', g8']
        have hB2 := hB.body hS
        refine ⟨_, hB2.get, true, rfl, (fun _ => ⟨_, hJ2, ?_⟩), (fun h => by cases h)⟩
        have := hB2.set (fun h => h) r
        rw [← hreq] at this
        exact hreq ▸ this
      · rintro _ H7 (⟨dd, hJ, h1⟩ | hf)
        · refine ⟨_, h1.get, (by rw [hst]; intro h; cases h), (fun _ => ?_), (fun c hc => by rw [hpd] at hc; cases hc)⟩
          have hB := h1.set (fun h => h) { r with state := .exhausted }
          have hS := hB.st
          generalize hset H7 L (.loop { r with state := .exhausted }) = H8 at hS ⊢
          repeat first | (with_reducible first | refine Wp.seq ?_ | refine Wp.reg ?_ | refine Wp.block ?_ | refine Wp.skip ?_ | refine Wp.ret ?_ | refine Wp.exit ?_ | refine Wp.label ?_ | refine Wp.condG ?_) | simp (disch := omega) only [↓RP, RQ, TS, TR, ↓reduceIte, Nat.reduceEqDiff, Nat.reduceLT, Nat.reduceLeDiff, Int.reduceLT, Int.reduceLE, Int.reduceEq, Int.reduceAdd, Int.reduceSub, Int.reduceNeg, Int.reduceToNat, Nat.reduceAdd, Nat.reduceMul, Nat.reduceSub, reduceCtorEq, RC, Int.cast_ofNat_Int, hn', g1', g6', g8', g22', g23', g24', wrap_fit]
          refine ⟨n - 1, by omega, i + 1, dd, by omega, rfl, hJ.toLs, ?_, hS.sub ?_⟩
          · rw [take_succ_getD' out i 0 hil, hxe]
            exact hJ.shut
          · exact .cons_cons _ (.cons_cons _ (.cons_cons _ (.cons_cons _ (.cons _ (.cons _ (.cons _ (.refl _)))))))
        · exact hf.elim
    · have hie : i = out.length := by omega
      subst hie
      have ho := hS.rd 2 rfl
      repeat first | (with_reducible first | refine Wp.seq ?_ | refine Wp.reg ?_ | refine Wp.block ?_ | refine Wp.skip ?_ | refine Wp.ret ?_ | refine Wp.exit ?_ | refine Wp.label ?_ | refine Wp.condG ?_) | simp (disch := omega) only [↓RP, RQ, TS, TR, ↓reduceIte, Nat.reduceEqDiff, Nat.reduceLT, Nat.reduceLeDiff, Int.reduceLT, Int.reduceLE, Int.reduceEq, Int.reduceAdd, Int.reduceSub, Int.reduceNeg, Int.reduceToNat, Nat.reduceAdd, Nat.reduceMul, Nat.reduceSub, reduceCtorEq, RC, Int.cast_ofNat_Int, hn, g1, g6, g22, g23, g24, hS.ld 3 rfl, ho.noTuple]
      refine ⟨out, hT, .inl ⟨hoN, w2, d, ⟨hL, fun e hem => hold e hem ?_⟩, rfl, hS.sub (.cons _ (.cons _ (.cons_cons _ (.cons _ (.refl _)))))⟩⟩
      rw [List.take_length]
      exact nodup_all hT.nodup hT.lt hoN _ (hval e hem).1
  · have hS := hS.trans hS2
    simp only [List.nil_append, List.cons_append, List.append_nil, List.set_cons_zero, List.set_cons_succ, setMany_cons, setMany_nil, Nat.zero_add, Nat.mul_one, Nat.add_zero] at hS
    repeat first | (with_reducible first | refine Wp.seq ?_ | refine Wp.reg ?_ | refine Wp.block ?_ | refine Wp.skip ?_ | refine Wp.ret ?_ | refine Wp.exit ?_ | refine Wp.label ?_ | refine Wp.condG ?_) | simp (disch := omega) only [↓RP, RQ, TS, TR, ↓reduceIte, Nat.reduceEqDiff, Nat.reduceLT, Nat.reduceLeDiff, Int.reduceLT, Int.reduceLE, Int.reduceEq, Int.reduceAdd, Int.reduceSub, Int.reduceNeg, Int.reduceToNat, Nat.reduceAdd, Nat.reduceMul, Nat.reduceSub, reduceCtorEq, RC, Int.cast_ofNat_Int, hn, g0]
    exact ⟨out, hT, .inr ⟨hlt, hst, hS.forget⟩⟩
end Go.Ds
/-
  Contracts: the reference's Steps.
-/
namespace Go.Ds
open Go.Proofs Go.Plain
variable {H : Heap}

theorem steps_ok (N : Nat) (v : Value) (es : List (Nat × Nat)) (hv : Eg H v es) (hN : N ≤ 200) (he : es.length ≤ 1000) (hval : ∀ e ∈ es, e.1 < N ∧ e.2 < N) :
    Fn Try.prog 15 [I N, v] H fun r H' => ∃ (ws : Nat → Value) (rows : Nat → List Nat), (∀ i, i < N → IsS es N i (rows i)) ∧ St Try.prog H H' (⟨r, 1, (List.range N).map ws⟩ :: inner N ws rows) := by
  refine Fn.of_wp (fn := Try.f15) rfl rfl (by kernel_rfl) fun l hl => ?_
  have hn : l.length = 88 := by rw [hl]; rfl
  have g0 : get l 0 = I N := by rw [hl]; rfl
  have g1 : get l 1 = v := by rw [hl]; rfl
  clear hl
  repeat first | (with_reducible first | refine Wp.seq ?_ | refine Wp.reg ?_ | refine Wp.block ?_ | refine Wp.skip ?_ | refine Wp.ret ?_ | refine Wp.exit ?_ | refine Wp.label ?_ | refine Wp.condG ?_) | simp (disch := omega) only [↓RP, RQ, TS, TR, ↓reduceIte, Nat.reduceEqDiff, Nat.reduceLT, Nat.reduceLeDiff, Int.reduceLT, Int.reduceLE, Int.reduceEq, Int.reduceAdd, Int.reduceSub, Int.reduceNeg, Int.reduceToNat, Nat.reduceAdd, Nat.reduceMul, Nat.reduceSub, reduceCtorEq, RC, Int.cast_ofNat_Int, hn, g0, g1]
  refine Wp.loopN (fun n l H' => l.length = 88 ∧ get l 0 = I N ∧ get l 1 = v ∧ ∃ (i : Nat) (o : Value) (ws : Nat → Value) (rows : Nat → List Nat), n + i = N ∧ get l 6 = I i ∧ get l 5 = o ∧
    (∀ j, j < i → IsS es N j (rows j)) ∧ St Try.prog H H' (⟨o, 1, (List.range i).map ws⟩ :: inner i ws rows)) N ?_ ?_
  · repeat first | (with_reducible first | refine Wp.seq ?_ | refine Wp.reg ?_ | refine Wp.block ?_ | refine Wp.skip ?_ | refine Wp.ret ?_ | refine Wp.exit ?_ | refine Wp.label ?_ | refine Wp.condG ?_) | simp (disch := omega) only [↓RP, RQ, TS, TR, ↓reduceIte, Nat.reduceEqDiff, Nat.reduceLT, Nat.reduceLeDiff, Int.reduceLT, Int.reduceLE, Int.reduceEq, Int.reduceAdd, Int.reduceSub, Int.reduceNeg, Int.reduceToNat, Nat.reduceAdd, Nat.reduceMul, Nat.reduceSub, reduceCtorEq, RC, Int.cast_ofNat_Int, hn, g0, g1]
    exact ⟨0, _, fun _ => undef, fun _ => [], rfl, rfl, rfl, fun j hj => absurd hj (Nat.not_lt_zero _), by simpa [inner] using (St.refl Try.prog H).nil 0⟩
  clear hn g0 g1
  rintro n l H' ⟨hn, g0, g1, i, o, ws, rows, hi, g6, g5, hrows, hS⟩
  repeat first | (with_reducible first | refine Wp.seq ?_ | refine Wp.reg ?_ | refine Wp.block ?_ | refine Wp.skip ?_ | refine Wp.ret ?_ | refine Wp.exit ?_ | refine Wp.label ?_ | refine Wp.condG ?_) | simp (disch := omega) only [↓RP, RQ, TS, TR, ↓reduceIte, Nat.reduceEqDiff, Nat.reduceLT, Nat.reduceLeDiff, Int.reduceLT, Int.reduceLE, Int.reduceEq, Int.reduceAdd, Int.reduceSub, Int.reduceNeg, Int.reduceToNat, Nat.reduceAdd, Nat.reduceMul, Nat.reduceSub, reduceCtorEq, RC, Int.cast_ofNat_Int, hn, g0, g1, g5, g6]
  refine condW_split (fun h => ?_) (fun h => ?_)
  · have hiN : i < N := by omega
    repeat first | (with_reducible first | refine Wp.seq ?_ | refine Wp.reg ?_ | refine Wp.block ?_ | refine Wp.skip ?_ | refine Wp.ret ?_ | refine Wp.exit ?_ | refine Wp.label ?_ | refine Wp.condG ?_) | simp (disch := omega) only [↓RP, RQ, TS, TR, ↓reduceIte, Nat.reduceEqDiff, Nat.reduceLT, Nat.reduceLeDiff, Int.reduceLT, Int.reduceLE, Int.reduceEq, Int.reduceAdd, Int.reduceSub, Int.reduceNeg, Int.reduceToNat, Nat.reduceAdd, Nat.reduceMul, Nat.reduceSub, reduceCtorEq, RC, Int.cast_ofNat_Int, hn, g0, g1, g5, g6]
    refine hS.eMake1 N tM29 (by omega) fun w H2 hS => ?_
    have hS := hS.front
    repeat first | (with_reducible first | refine Wp.seq ?_ | refine Wp.reg ?_ | refine Wp.block ?_ | refine Wp.skip ?_ | refine Wp.ret ?_ | refine Wp.exit ?_ | refine Wp.label ?_ | refine Wp.condG ?_) | simp (disch := omega) only [↓RP, RQ, TS, TR, ↓reduceIte, Nat.reduceEqDiff, Nat.reduceLT, Nat.reduceLeDiff, Int.reduceLT, Int.reduceLE, Int.reduceEq, Int.reduceAdd, Int.reduceSub, Int.reduceNeg, Int.reduceToNat, Nat.reduceAdd, Nat.reduceMul, Nat.reduceSub, reduceCtorEq, RC, Int.cast_ofNat_Int, hn, g0, g1, g5, g6]
    refine Wp.loopN (fun n2 l H' => l.length = 88 ∧ get l 0 = I N ∧ get l 1 = v ∧ get l 5 = o ∧ get l 6 = I i ∧ get l 7 = w ∧ ∃ (b : Bool) (row : List Nat), get l 8 = .bool b ∧ n2 = 2 * wt N row + (if b = true then 1 else 0) ∧ RI es N i row ∧
      (b = false → ∀ e ∈ es, ¬ better i row e) ∧ St Try.prog H H' (⟨w, 1, nts row⟩ :: ⟨o, 1, (List.range i).map ws⟩ :: inner i ws rows)) (2 * wt N (List.replicate N 0) + 1) ?_ ?_
    · repeat first | (with_reducible first | refine Wp.seq ?_ | refine Wp.reg ?_ | refine Wp.block ?_ | refine Wp.skip ?_ | refine Wp.ret ?_ | refine Wp.exit ?_ | refine Wp.label ?_ | refine Wp.condG ?_) | simp (disch := omega) only [↓RP, RQ, TS, TR, ↓reduceIte, Nat.reduceEqDiff, Nat.reduceLT, Nat.reduceLeDiff, Int.reduceLT, Int.reduceLE, Int.reduceEq, Int.reduceAdd, Int.reduceSub, Int.reduceNeg, Int.reduceToNat, Nat.reduceAdd, Nat.reduceMul, Nat.reduceSub, reduceCtorEq, RC, Int.cast_ofNat_Int, hn, g0, g1, g5, g6]
      exact ⟨true, List.replicate N 0, rfl, rfl, .first es N i, (fun h => by cases h), by simpa [nts] using hS⟩
    clear hS hn g0 g1 g5 g6
    rintro n2 l H' ⟨hn, g0, g1, g5, g6, g7, b, row, g8, hn2, hR, hb, hS⟩
    repeat first | (with_reducible first | refine Wp.seq ?_ | refine Wp.reg ?_ | refine Wp.block ?_ | refine Wp.skip ?_ | refine Wp.ret ?_ | refine Wp.exit ?_ | refine Wp.label ?_ | refine Wp.condG ?_) | simp (disch := omega) only [↓RP, RQ, TS, TR, ↓reduceIte, Nat.reduceEqDiff, Nat.reduceLT, Nat.reduceLeDiff, Int.reduceLT, Int.reduceLE, Int.reduceEq, Int.reduceAdd, Int.reduceSub, Int.reduceNeg, Int.reduceToNat, Nat.reduceAdd, Nat.reduceMul, Nat.reduceSub, reduceCtorEq, RC, Int.cast_ofNat_Int, hn, g0, g1, g5, g6, g7, g8]
    refine condW_bool (fun hbt => ?_) (fun hbf => ?_)
    · subst hbt
      repeat first | (with_reducible first | refine Wp.seq ?_ | refine Wp.reg ?_ | refine Wp.block ?_ | refine Wp.skip ?_ | refine Wp.ret ?_ | refine Wp.exit ?_ | refine Wp.label ?_ | refine Wp.condG ?_) | simp (disch := omega) only [↓RP, RQ, TS, TR, ↓reduceIte, Nat.reduceEqDiff, Nat.reduceLT, Nat.reduceLeDiff, Int.reduceLT, Int.reduceLE, Int.reduceEq, Int.reduceAdd, Int.reduceSub, Int.reduceNeg, Int.reduceToNat, Nat.reduceAdd, Nat.reduceMul, Nat.reduceSub, reduceCtorEq, RC, Int.cast_ofNat_Int, hn, g0, g1, g5, g6, g7, g8]
      refine Wp.loopN (fun n3 l H' => l.length = 88 ∧ get l 0 = I N ∧ get l 1 = v ∧ get l 5 = o ∧ get l 6 = I i ∧ get l 7 = w ∧ ∃ (b : Bool) (row' : List Nat) (k : Nat), n3 + k = es.length ∧ get l 9 = I k ∧ get l 8 = .bool b ∧ RI es N i row' ∧
        (b = false → row' = row ∧ ∀ j, j < k → ¬ better i row (es.getD j (0, 0))) ∧ (b = true → wt N row' < wt N row) ∧ St Try.prog H H' (⟨w, 1, nts row'⟩ :: ⟨o, 1, (List.range i).map ws⟩ :: inner i ws rows)) es.length ?_ ?_
      · repeat first | (with_reducible first | refine Wp.seq ?_ | refine Wp.reg ?_ | refine Wp.block ?_ | refine Wp.skip ?_ | refine Wp.ret ?_ | refine Wp.exit ?_ | refine Wp.label ?_ | refine Wp.condG ?_) | simp (disch := omega) only [↓RP, RQ, TS, TR, ↓reduceIte, Nat.reduceEqDiff, Nat.reduceLT, Nat.reduceLeDiff, Int.reduceLT, Int.reduceLE, Int.reduceEq, Int.reduceAdd, Int.reduceSub, Int.reduceNeg, Int.reduceToNat, Nat.reduceAdd, Nat.reduceMul, Nat.reduceSub, reduceCtorEq, RC, Int.cast_ofNat_Int, hn, g0, g1, g5, g6, g7]
        exact ⟨false, row, 0, rfl, rfl, rfl, hR, fun _ => ⟨rfl, fun j hj => absurd hj (Nat.not_lt_zero _)⟩, (fun h => by cases h), hS⟩
      clear hS hn g0 g1 g5 g6 g7 g8
      rintro n3 l H' ⟨hn, g0, g1, g5, g6, g7, b, row', k, hk, g9, g8, hR', hbf, hbt, hS⟩
      have hv1 : Sl2 H' v _ _ es := hS.base hv
      have hw : Sl1 H' w (fun n : Nat => I n) row' := hS.rd 0 rfl
      repeat first | (with_reducible first | refine Wp.seq ?_ | refine Wp.reg ?_ | refine Wp.block ?_ | refine Wp.skip ?_ | refine Wp.ret ?_ | refine Wp.exit ?_ | refine Wp.label ?_ | refine Wp.condG ?_) | simp (disch := omega) only [↓RP, RQ, TS, TR, ↓reduceIte, Nat.reduceEqDiff, Nat.reduceLT, Nat.reduceLeDiff, Int.reduceLT, Int.reduceLE, Int.reduceEq, Int.reduceAdd, Int.reduceSub, Int.reduceNeg, Int.reduceToNat, Nat.reduceAdd, Nat.reduceMul, Nat.reduceSub, reduceCtorEq, RC, Int.cast_ofNat_Int, hn, g0, g1, g5, g6, g7, g8, g9, hv1.len]
      refine condW_split (fun h3 => ?_) (fun h3 => ?_)
      · have hm := hval _ (getD_mem (0, 0) (show k < es.length by omega))
        have hme := getD_mem (0, 0) (show k < es.length by omega)
        have hlen := hR'.len
        have hsm := hR'.small (es.getD k (0, 0)).1 hm.1
        have hnz := nz_le row'
        repeat first | (with_reducible first | refine Wp.seq ?_ | refine Wp.reg ?_ | refine Wp.block ?_ | refine Wp.skip ?_ | refine Wp.ret ?_ | refine Wp.exit ?_ | refine Wp.label ?_ | refine Wp.condG ?_) | simp (disch := omega) only [↓RP, RQ, TS, TR, ↓reduceIte, Nat.reduceEqDiff, Nat.reduceLT, Nat.reduceLeDiff, Int.reduceLT, Int.reduceLE, Int.reduceEq, Int.reduceAdd, Int.reduceSub, Int.reduceNeg, Int.reduceToNat, Nat.reduceAdd, Nat.reduceMul, Nat.reduceSub, reduceCtorEq, RC, Int.cast_ofNat_Int, hn, g0, g1, g5, g6, g7, g8, g9, hv1.idx, hv1.fld, hv1.ld0 (0, 0)]
        refine condW_cut (fun e l H2 => e = .normal ∧ H2 = H' ∧ l.length = 88 ∧ get l 0 = I N ∧ get l 1 = v ∧ get l 5 = o ∧ get l 6 = I i ∧ get l 7 = w ∧ get l 8 = .bool b ∧ get l 9 = I k ∧ get l 10 = I (offer i row' (es.getD k (0, 0)))) ?_ ?_
        · refine condW_split (fun h4 => ?_) (fun h4 => ?_)
          · have e : offer i row' (es.getD k (0, 0)) = 1 := by unfold offer; rw [if_pos (by omega)]
            repeat first | (with_reducible first | refine Wp.seq ?_ | refine Wp.reg ?_ | refine Wp.block ?_ | refine Wp.skip ?_ | refine Wp.ret ?_ | refine Wp.exit ?_ | refine Wp.label ?_ | refine Wp.condG ?_) | simp (disch := omega) only [↓RP, RQ, TS, TR, ↓reduceIte, Nat.reduceEqDiff, Nat.reduceLT, Nat.reduceLeDiff, Int.reduceLT, Int.reduceLE, Int.reduceEq, Int.reduceAdd, Int.reduceSub, Int.reduceNeg, Int.reduceToNat, Nat.reduceAdd, Nat.reduceMul, Nat.reduceSub, reduceCtorEq, RC, Int.cast_ofNat_Int, hn, g0, g1, g5, g6, g7, g8, g9, e]
            try rfl
          · repeat first | (with_reducible first | refine Wp.seq ?_ | refine Wp.reg ?_ | refine Wp.block ?_ | refine Wp.skip ?_ | refine Wp.ret ?_ | refine Wp.exit ?_ | refine Wp.label ?_ | refine Wp.condG ?_) | simp (disch := omega) only [↓RP, RQ, TS, TR, ↓reduceIte, Nat.reduceEqDiff, Nat.reduceLT, Nat.reduceLeDiff, Int.reduceLT, Int.reduceLE, Int.reduceEq, Int.reduceAdd, Int.reduceSub, Int.reduceNeg, Int.reduceToNat, Nat.reduceAdd, Nat.reduceMul, Nat.reduceSub, reduceCtorEq, RC, Int.cast_ofNat_Int, hn, g0, g1, g5, g6, g7, g8, g9, hv1.idx, hv1.fld, hv1.ld0 (0, 0), hw.idx, hw.ld 0]
            refine condW_split (fun h5 => ?_) (fun h5 => ?_)
            · have e : offer i row' (es.getD k (0, 0)) = row'.getD (es.getD k (0, 0)).1 0 + 1 := by unfold offer; rw [if_neg (by omega), if_pos (by omega)]
              repeat first | (with_reducible first | refine Wp.seq ?_ | refine Wp.reg ?_ | refine Wp.block ?_ | refine Wp.skip ?_ | refine Wp.ret ?_ | refine Wp.exit ?_ | refine Wp.label ?_ | refine Wp.condG ?_) | simp (disch := omega) only [↓RP, RQ, TS, TR, ↓reduceIte, Nat.reduceEqDiff, Nat.reduceLT, Nat.reduceLeDiff, Int.reduceLT, Int.reduceLE, Int.reduceEq, Int.reduceAdd, Int.reduceSub, Int.reduceNeg, Int.reduceToNat, Nat.reduceAdd, Nat.reduceMul, Nat.reduceSub, reduceCtorEq, RC, Int.cast_ofNat_Int, hn, g0, g1, g5, g6, g7, g8, g9, hv1.idx, hv1.fld, hv1.ld0 (0, 0), hw.idx, hw.ld 0, e, wrap_fit]
              try rfl
            · have e : offer i row' (es.getD k (0, 0)) = 0 := by unfold offer; rw [if_neg (by omega), if_neg (by omega)]
              repeat first | (with_reducible first | refine Wp.seq ?_ | refine Wp.reg ?_ | refine Wp.block ?_ | refine Wp.skip ?_ | refine Wp.ret ?_ | refine Wp.exit ?_ | refine Wp.label ?_ | refine Wp.condG ?_) | simp (disch := omega) only [↓RP, RQ, TS, TR, ↓reduceIte, Nat.reduceEqDiff, Nat.reduceLT, Nat.reduceLeDiff, Int.reduceLT, Int.reduceLE, Int.reduceEq, Int.reduceAdd, Int.reduceSub, Int.reduceNeg, Int.reduceToNat, Nat.reduceAdd, Nat.reduceMul, Nat.reduceSub, reduceCtorEq, RC, Int.cast_ofNat_Int, hn, g0, g1, g5, g6, g7, g8, g9, e]
              try rfl
        clear hn g0 g1 g5 g6 g7 g8 g9
        rintro e l H2 ⟨rfl, rfl, hn, g0, g1, g5, g6, g7, g8, g9, g10⟩
        repeat first | (with_reducible first | refine Wp.seq ?_ | refine Wp.reg ?_ | refine Wp.block ?_ | refine Wp.skip ?_ | refine Wp.ret ?_ | refine Wp.exit ?_ | refine Wp.label ?_ | refine Wp.condG ?_) | simp (disch := omega) only [↓RP, RQ, TS, TR, ↓reduceIte, Nat.reduceEqDiff, Nat.reduceLT, Nat.reduceLeDiff, Int.reduceLT, Int.reduceLE, Int.reduceEq, Int.reduceAdd, Int.reduceSub, Int.reduceNeg, Int.reduceToNat, Nat.reduceAdd, Nat.reduceMul, Nat.reduceSub, reduceCtorEq, RC, Int.cast_ofNat_Int, hn, g0, g1, g5, g6, g7, g8, g9, g10]
        refine letG_split (fun h6 => ?_) (fun h6 => ?_)
        · repeat first | (with_reducible first | refine Wp.seq ?_ | refine Wp.reg ?_ | refine Wp.block ?_ | refine Wp.skip ?_ | refine Wp.ret ?_ | refine Wp.exit ?_ | refine Wp.label ?_ | refine Wp.condG ?_) | simp (disch := omega) only [↓RP, RQ, TS, TR, ↓reduceIte, Nat.reduceEqDiff, Nat.reduceLT, Nat.reduceLeDiff, Int.reduceLT, Int.reduceLE, Int.reduceEq, Int.reduceAdd, Int.reduceSub, Int.reduceNeg, Int.reduceToNat, Nat.reduceAdd, Nat.reduceMul, Nat.reduceSub, reduceCtorEq, RC, Int.cast_ofNat_Int, hn, g0, g1, g5, g6, g7, g8, g9, g10, h6, hv1.idx, hv1.fld, hv1.ld0 (0, 0), hv1.ld1 (0, 0), hw.idx, hw.ld 0]
          refine letG_split' (fun h7 => ?_) (fun h7 => ?_)
          · have hb6 : better i row' (es.getD k (0, 0)) := ⟨by omega, .inl (by omega)⟩
            have hlt := hm.2
            have hst := hR'.step _ hme hm.1 hm.2 hb6
            repeat first | (with_reducible first | refine Wp.seq ?_ | refine Wp.reg ?_ | refine Wp.block ?_ | refine Wp.skip ?_ | refine Wp.ret ?_ | refine Wp.exit ?_ | refine Wp.label ?_ | refine Wp.condG ?_) | simp (disch := omega) only [↓RP, RQ, TS, TR, ↓reduceIte, Nat.reduceEqDiff, Nat.reduceLT, Nat.reduceLeDiff, Int.reduceLT, Int.reduceLE, Int.reduceEq, Int.reduceAdd, Int.reduceSub, Int.reduceNeg, Int.reduceToNat, Nat.reduceAdd, Nat.reduceMul, Nat.reduceSub, reduceCtorEq, RC, Int.cast_ofNat_Int, hn, g0, g1, g5, g6, g7, g8, g9, g10, h6, h7, hv1.idx, hv1.fld, hv1.ld0 (0, 0), hv1.ld1 (0, 0), hw.idx, hw.ld 0]
            refine hS.eStoreE 0 rfl [_] rfl rfl tS3 (by simp) (by simp only [nts, List.length_map, List.length_cons, List.length_nil]; omega) fun H5 hS => ?_
            simp only [List.nil_append, List.cons_append, List.append_nil, List.set_cons_zero, List.set_cons_succ, setMany_cons, setMany_nil, Nat.zero_add, Nat.mul_one, Nat.add_zero] at hS
            rw [show (nts row').set (es.getD k (0, 0)).2 (I (offer i row' (es.getD k (0, 0)))) = nts (row'.set (es.getD k (0, 0)).2 (offer i row' (es.getD k (0, 0)))) from (List.map_set ..).symm] at hS
            repeat first | (with_reducible first | refine Wp.seq ?_ | refine Wp.reg ?_ | refine Wp.block ?_ | refine Wp.skip ?_ | refine Wp.ret ?_ | refine Wp.exit ?_ | refine Wp.label ?_ | refine Wp.condG ?_) | simp (disch := omega) only [↓RP, RQ, TS, TR, ↓reduceIte, Nat.reduceEqDiff, Nat.reduceLT, Nat.reduceLeDiff, Int.reduceLT, Int.reduceLE, Int.reduceEq, Int.reduceAdd, Int.reduceSub, Int.reduceNeg, Int.reduceToNat, Nat.reduceAdd, Nat.reduceMul, Nat.reduceSub, reduceCtorEq, RC, Int.cast_ofNat_Int, hn, g0, g1, g5, g6, g7, g8, g9, g10, wrap_fit]
            refine ⟨n3 - 1, by omega, true, _, k + 1, by omega, rfl, rfl, hst.1, (fun h => by cases h), (fun _ => ?_), hS⟩
            cases b with
            | true => exact Nat.lt_trans hst.2 (hbt rfl)
            | false => rw [(hbf rfl).1] at hst ⊢; exact hst.2
          · repeat first | (with_reducible first | refine Wp.seq ?_ | refine Wp.reg ?_ | refine Wp.block ?_ | refine Wp.skip ?_ | refine Wp.ret ?_ | refine Wp.exit ?_ | refine Wp.label ?_ | refine Wp.condG ?_) | simp (disch := omega) only [↓RP, RQ, TS, TR, ↓reduceIte, Nat.reduceEqDiff, Nat.reduceLT, Nat.reduceLeDiff, Int.reduceLT, Int.reduceLE, Int.reduceEq, Int.reduceAdd, Int.reduceSub, Int.reduceNeg, Int.reduceToNat, Nat.reduceAdd, Nat.reduceMul, Nat.reduceSub, reduceCtorEq, RC, Int.cast_ofNat_Int, hn, g0, g1, g5, g6, g7, g8, g9, g10, h6, h7, hv1.idx, hv1.fld, hv1.ld0 (0, 0), hv1.ld1 (0, 0), hw.idx, hw.ld 0]
            refine condW_split (fun h8 => ?_) (fun h8 => ?_)
            · have hb6 : better i row' (es.getD k (0, 0)) := ⟨by omega, .inr (by omega)⟩
              have hlt := hm.2
              have hst := hR'.step _ hme hm.1 hm.2 hb6
              repeat first | (with_reducible first | refine Wp.seq ?_ | refine Wp.reg ?_ | refine Wp.block ?_ | refine Wp.skip ?_ | refine Wp.ret ?_ | refine Wp.exit ?_ | refine Wp.label ?_ | refine Wp.condG ?_) | simp (disch := omega) only [↓RP, RQ, TS, TR, ↓reduceIte, Nat.reduceEqDiff, Nat.reduceLT, Nat.reduceLeDiff, Int.reduceLT, Int.reduceLE, Int.reduceEq, Int.reduceAdd, Int.reduceSub, Int.reduceNeg, Int.reduceToNat, Nat.reduceAdd, Nat.reduceMul, Nat.reduceSub, reduceCtorEq, RC, Int.cast_ofNat_Int, hn, g0, g1, g5, g6, g7, g8, g9, g10, h6, h7, hv1.idx, hv1.fld, hv1.ld0 (0, 0), hv1.ld1 (0, 0), hw.idx, hw.ld 0]
              refine hS.eStoreE 0 rfl [_] rfl rfl tS3 (by simp) (by simp only [nts, List.length_map, List.length_cons, List.length_nil]; omega) fun H5 hS => ?_
              simp only [List.nil_append, List.cons_append, List.append_nil, List.set_cons_zero, List.set_cons_succ, setMany_cons, setMany_nil, Nat.zero_add, Nat.mul_one, Nat.add_zero] at hS
              rw [show (nts row').set (es.getD k (0, 0)).2 (I (offer i row' (es.getD k (0, 0)))) = nts (row'.set (es.getD k (0, 0)).2 (offer i row' (es.getD k (0, 0)))) from (List.map_set ..).symm] at hS
              repeat first | (with_reducible first | refine Wp.seq ?_ | refine Wp.reg ?_ | refine Wp.block ?_ | refine Wp.skip ?_ | refine Wp.ret ?_ | refine Wp.exit ?_ | refine Wp.label ?_ | refine Wp.condG ?_) | simp (disch := omega) only [↓RP, RQ, TS, TR, ↓reduceIte, Nat.reduceEqDiff, Nat.reduceLT, Nat.reduceLeDiff, Int.reduceLT, Int.reduceLE, Int.reduceEq, Int.reduceAdd, Int.reduceSub, Int.reduceNeg, Int.reduceToNat, Nat.reduceAdd, Nat.reduceMul, Nat.reduceSub, reduceCtorEq, RC, Int.cast_ofNat_Int, hn, g0, g1, g5, g6, g7, g8, g9, g10, wrap_fit]
              refine ⟨n3 - 1, by omega, true, _, k + 1, by omega, rfl, rfl, hst.1, (fun h => by cases h), (fun _ => ?_), hS⟩
              cases b with
              | true => exact Nat.lt_trans hst.2 (hbt rfl)
              | false => rw [(hbf rfl).1] at hst ⊢; exact hst.2
            · have hnb : ¬ better i row' (es.getD k (0, 0)) := fun hh => by
                rcases hh.2 with h9 | h9 <;> omega
              skip
              repeat first | (with_reducible first | refine Wp.seq ?_ | refine Wp.reg ?_ | refine Wp.block ?_ | refine Wp.skip ?_ | refine Wp.ret ?_ | refine Wp.exit ?_ | refine Wp.label ?_ | refine Wp.condG ?_) | simp (disch := omega) only [↓RP, RQ, TS, TR, ↓reduceIte, Nat.reduceEqDiff, Nat.reduceLT, Nat.reduceLeDiff, Int.reduceLT, Int.reduceLE, Int.reduceEq, Int.reduceAdd, Int.reduceSub, Int.reduceNeg, Int.reduceToNat, Nat.reduceAdd, Nat.reduceMul, Nat.reduceSub, reduceCtorEq, RC, Int.cast_ofNat_Int, hn, g0, g1, g5, g6, g7, g8, g9, g10, h6, wrap_fit]
              refine ⟨n3 - 1, by omega, b, row', k + 1, by omega, rfl, rfl, hR', (fun h => ?_), hbt, hS⟩
              obtain ⟨e1, e2⟩ := hbf h
              subst e1
              refine ⟨rfl, fun j hj => ?_⟩
              by_cases e : j = k
              · subst e; exact hnb
              · exact e2 j (by omega)
        · have hnb : ¬ better i row' (es.getD k (0, 0)) := fun hh => by have := hh.1; omega
          skip
          repeat first | (with_reducible first | refine Wp.seq ?_ | refine Wp.reg ?_ | refine Wp.block ?_ | refine Wp.skip ?_ | refine Wp.ret ?_ | refine Wp.exit ?_ | refine Wp.label ?_ | refine Wp.condG ?_) | simp (disch := omega) only [↓RP, RQ, TS, TR, ↓reduceIte, Nat.reduceEqDiff, Nat.reduceLT, Nat.reduceLeDiff, Int.reduceLT, Int.reduceLE, Int.reduceEq, Int.reduceAdd, Int.reduceSub, Int.reduceNeg, Int.reduceToNat, Nat.reduceAdd, Nat.reduceMul, Nat.reduceSub, reduceCtorEq, RC, Int.cast_ofNat_Int, hn, g0, g1, g5, g6, g7, g8, g9, g10, h6, wrap_fit]
          refine ⟨n3 - 1, by omega, b, row', k + 1, by omega, rfl, rfl, hR', (fun h => ?_), hbt, hS⟩
          obtain ⟨e1, e2⟩ := hbf h
          subst e1
          refine ⟨rfl, fun j hj => ?_⟩
          by_cases e : j = k
          · subst e; exact hnb
          · exact e2 j (by omega)
      · repeat first | (with_reducible first | refine Wp.seq ?_ | refine Wp.reg ?_ | refine Wp.block ?_ | refine Wp.skip ?_ | refine Wp.ret ?_ | refine Wp.exit ?_ | refine Wp.label ?_ | refine Wp.condG ?_) | simp (disch := omega) only [↓RP, RQ, TS, TR, ↓reduceIte, Nat.reduceEqDiff, Nat.reduceLT, Nat.reduceLeDiff, Int.reduceLT, Int.reduceLE, Int.reduceEq, Int.reduceAdd, Int.reduceSub, Int.reduceNeg, Int.reduceToNat, Nat.reduceAdd, Nat.reduceMul, Nat.reduceSub, reduceCtorEq, RC, Int.cast_ofNat_Int, hn, g0, g1, g5, g6, g7, g8, g9]
        cases b with
        | true =>
          have := hbt rfl
          refine ⟨_, ?_, true, row', rfl, rfl, hR', (fun h => by cases h), hS⟩
          rw [hn2]
          simp
          omega
        | false =>
          obtain ⟨e1, e2⟩ := hbf rfl
          subst e1
          refine ⟨_, ?_, false, row', rfl, rfl, hR', (fun _ e he => ?_), hS⟩
          · rw [hn2]; simp
          · obtain ⟨j, hj, rfl⟩ := List.getElem_of_mem he
            have := e2 j (by omega)
            rwa [List.getD_eq_getElem?_getD, List.getElem?_eq_getElem hj] at this
    · subst hbf
      have hw := (hS.rd 0 rfl).cells
      repeat first | (with_reducible first | refine Wp.seq ?_ | refine Wp.reg ?_ | refine Wp.block ?_ | refine Wp.skip ?_ | refine Wp.ret ?_ | refine Wp.exit ?_ | refine Wp.label ?_ | refine Wp.condG ?_) | simp (disch := omega) only [↓RP, RQ, TS, TR, ↓reduceIte, Nat.reduceEqDiff, Nat.reduceLT, Nat.reduceLeDiff, Int.reduceLT, Int.reduceLE, Int.reduceEq, Int.reduceAdd, Int.reduceSub, Int.reduceNeg, Int.reduceToNat, Nat.reduceAdd, Nat.reduceMul, Nat.reduceSub, reduceCtorEq, RC, Int.cast_ofNat_Int, hn, g0, g1, g5, g6, g7, g8]
      refine hS.eSlice [w] tP33 tF33 rfl rfl (by simp [hw.1]) (by simp [hw.1]) (by simp [hw.2.1]) (by decide) (by decide) fun x H2 hS => ?_
      have hS := hS.front
      repeat first | (with_reducible first | refine Wp.seq ?_ | refine Wp.reg ?_ | refine Wp.block ?_ | refine Wp.skip ?_ | refine Wp.ret ?_ | refine Wp.exit ?_ | refine Wp.label ?_ | refine Wp.condG ?_) | simp (disch := omega) only [↓RP, RQ, TS, TR, ↓reduceIte, Nat.reduceEqDiff, Nat.reduceLT, Nat.reduceLeDiff, Int.reduceLT, Int.reduceLE, Int.reduceEq, Int.reduceAdd, Int.reduceSub, Int.reduceNeg, Int.reduceToNat, Nat.reduceAdd, Nat.reduceMul, Nat.reduceSub, reduceCtorEq, RC, Int.cast_ofNat_Int, hn, g0, g1, g5, g6, g7, g8]
      refine hS.eAppend 2 rfl (hS.rd 0 rfl) tP33 (by simp only [List.length_map, List.length_range, List.length_cons, List.length_nil]; omega) fun o' H3 hS => ?_
      simp only [List.nil_append, List.cons_append, List.append_nil, List.set_cons_zero, List.set_cons_succ, setMany_cons, setMany_nil, Nat.zero_add, Nat.mul_one, Nat.add_zero] at hS
      repeat first | (with_reducible first | refine Wp.seq ?_ | refine Wp.reg ?_ | refine Wp.block ?_ | refine Wp.skip ?_ | refine Wp.ret ?_ | refine Wp.exit ?_ | refine Wp.label ?_ | refine Wp.condG ?_) | simp (disch := omega) only [↓RP, RQ, TS, TR, ↓reduceIte, Nat.reduceEqDiff, Nat.reduceLT, Nat.reduceLeDiff, Int.reduceLT, Int.reduceLE, Int.reduceEq, Int.reduceAdd, Int.reduceSub, Int.reduceNeg, Int.reduceToNat, Nat.reduceAdd, Nat.reduceMul, Nat.reduceSub, reduceCtorEq, RC, Int.cast_ofNat_Int, hn, g0, g1, g5, g6, g7, g8, wrap_fit]
      refine ⟨n - 1, by omega, i + 1, o', upd ws i w, upd rows i row, by omega, rfl, rfl, ?_, ?_⟩
      · intro j hj
        unfold upd
        split
        · rename_i e; rw [e]; exact hR.last hiN hval (hb rfl)
        · exact hrows j (by omega)
      · have hS := hS.tail
        have e1 : (List.range (i + 1)).map (upd ws i w) = (List.range i).map ws ++ [w] := by
          rw [List.range_succ, List.map_append]
          congr 1
          · exact List.map_congr_left fun j hj => by
              have := List.mem_range.1 hj
              unfold upd; rw [if_neg (by omega)]
          · simp [upd]
        have e2 : inner (i + 1) (upd ws i w) (upd rows i row) = inner i ws rows ++ [⟨w, 1, nts row⟩] := by
          unfold inner
          rw [List.range_succ, List.map_append]
          congr 1
          · exact List.map_congr_left fun j hj => by
              have := List.mem_range.1 hj
              unfold upd; rw [if_neg (by omega), if_neg (by omega)]
          · simp [upd]
        rw [e1, e2]
        exact hS.perm (by
          refine List.Perm.trans (List.Perm.swap _ _ _) (List.Perm.cons _ ?_)
          exact (List.perm_append_singleton _ _).symm)
  · repeat first | (with_reducible first | refine Wp.seq ?_ | refine Wp.reg ?_ | refine Wp.block ?_ | refine Wp.skip ?_ | refine Wp.ret ?_ | refine Wp.exit ?_ | refine Wp.label ?_ | refine Wp.condG ?_) | simp (disch := omega) only [↓RP, RQ, TS, TR, ↓reduceIte, Nat.reduceEqDiff, Nat.reduceLT, Nat.reduceLeDiff, Int.reduceLT, Int.reduceLE, Int.reduceEq, Int.reduceAdd, Int.reduceSub, Int.reduceNeg, Int.reduceToNat, Nat.reduceAdd, Nat.reduceMul, Nat.reduceSub, reduceCtorEq, RC, Int.cast_ofNat_Int, hn, g0, g1, g5, g6]
    have e : i = N := by omega
    subst e
    exact ⟨ws, rows, hrows, hS⟩
end Go.Ds
/-
  Contracts: the reference's Cycle.
-/
namespace Go.Ds
open Go.Proofs Go.Plain
variable {H : Heap}

theorem refCycle_ok (N : Nat) (ev : Value) (es : List (Nat × Nat)) (hE : Eg H ev es) (hN : N ≤ 200) (he : es.length ≤ 1000) (hval : ∀ e ∈ es, e.1 < N ∧ e.2 < N) (hdN : ∀ k, k < es.length → dT es N 0 k ≤ N) (T : HasD es N) :
    Fn Try.prog 20 [I N, ev] H fun r H' => ∃ b : List Nat, Mst (cand es N) (fun i => dT es N 0 i) (fun i => cyc es N 0 i) es.length b ∧ b.length ≤ N + 1 ∧ St Try.prog H H' [⟨r, 1, nts b⟩] := by
  have hcl : ∀ i, i < es.length → cand es N i → ((cyc es N 0 i).length : Int) = dT es N 0 i + 1 := fun i hi h => (cyc_ch T (Nat.zero_le _) hi h.1).2.2
  refine Fn.of_wp (fn := Try.f20) rfl rfl (by kernel_rfl) fun l hl => ?_
  have hn : l.length = 106 := by rw [hl]; rfl
  have g0 : get l 0 = I N := by rw [hl]; rfl
  have g1 : get l 1 = ev := by rw [hl]; rfl
  clear hl
  repeat first | (with_reducible first | refine Wp.seq ?_ | refine Wp.reg ?_ | refine Wp.block ?_ | refine Wp.skip ?_ | refine Wp.ret ?_ | refine Wp.exit ?_ | refine Wp.label ?_ | refine Wp.condG ?_) | simp (disch := omega) only [↓RP, RQ, TS, TR, ↓reduceIte, Nat.reduceEqDiff, Nat.reduceLT, Nat.reduceLeDiff, Int.reduceLT, Int.reduceLE, Int.reduceEq, Int.reduceAdd, Int.reduceSub, Int.reduceNeg, Int.reduceToNat, Nat.reduceAdd, Nat.reduceMul, Nat.reduceSub, reduceCtorEq, RC, Int.cast_ofNat_Int, hn, g0, g1]
  refine callFW_of (steps_ok N ev es hE hN he hval) ?_
  rintro st H1 ⟨ws, rows, hrows, hS⟩
  have hS := (hS.nil 0).front
  repeat first | (with_reducible first | refine Wp.seq ?_ | refine Wp.reg ?_ | refine Wp.block ?_ | refine Wp.skip ?_ | refine Wp.ret ?_ | refine Wp.exit ?_ | refine Wp.label ?_ | refine Wp.condG ?_) | simp (disch := omega) only [↓RP, RQ, TS, TR, ↓reduceIte, Nat.reduceEqDiff, Nat.reduceLT, Nat.reduceLeDiff, Int.reduceLT, Int.reduceLE, Int.reduceEq, Int.reduceAdd, Int.reduceSub, Int.reduceNeg, Int.reduceToNat, Nat.reduceAdd, Nat.reduceMul, Nat.reduceSub, reduceCtorEq, RC, Int.cast_ofNat_Int, hn, g0, g1]
  refine Wp.loopN (fun n l H' => l.length = 106 ∧ get l 1 = ev ∧ get l 5 = st ∧ ∃ (k : Nat) (b : List Nat) (bv : Value), n + k = es.length ∧ get l 6 = bv ∧ get l 7 = I k ∧ Mst (cand es N) (fun i => dT es N 0 i) (fun i => cyc es N 0 i) k b ∧ b.length ≤ N + 1 ∧
    St Try.prog H H' (⟨bv, 1, nts b⟩ :: ⟨st, 1, (List.range N).map ws⟩ :: inner N ws rows)) es.length ?_ ?_
  · repeat first | (with_reducible first | refine Wp.seq ?_ | refine Wp.reg ?_ | refine Wp.block ?_ | refine Wp.skip ?_ | refine Wp.ret ?_ | refine Wp.exit ?_ | refine Wp.label ?_ | refine Wp.condG ?_) | simp (disch := omega) only [↓RP, RQ, TS, TR, ↓reduceIte, Nat.reduceEqDiff, Nat.reduceLT, Nat.reduceLeDiff, Int.reduceLT, Int.reduceLE, Int.reduceEq, Int.reduceAdd, Int.reduceSub, Int.reduceNeg, Int.reduceToNat, Nat.reduceAdd, Nat.reduceMul, Nat.reduceSub, reduceCtorEq, RC, Int.cast_ofNat_Int, hn, g0, g1]
    exact ⟨0, [], _, rfl, rfl, rfl, .first, by simp, hS⟩
  clear hS hn g0 g1
  rintro n l H' ⟨hn, g1, g5, k, b, bv, hk, g6, g7, hM, hbN, hS⟩
  have hv1 : Sl2 H' ev _ _ es := hS.base hE
  repeat first | (with_reducible first | refine Wp.seq ?_ | refine Wp.reg ?_ | refine Wp.block ?_ | refine Wp.skip ?_ | refine Wp.ret ?_ | refine Wp.exit ?_ | refine Wp.label ?_ | refine Wp.condG ?_) | simp (disch := omega) only [↓RP, RQ, TS, TR, ↓reduceIte, Nat.reduceEqDiff, Nat.reduceLT, Nat.reduceLeDiff, Int.reduceLT, Int.reduceLE, Int.reduceEq, Int.reduceAdd, Int.reduceSub, Int.reduceNeg, Int.reduceToNat, Nat.reduceAdd, Nat.reduceMul, Nat.reduceSub, reduceCtorEq, RC, Int.cast_ofNat_Int, hn, g1, g5, g6, g7, hv1.len]
  refine condW_split (fun h => ?_) (fun h => ?_)
  · have hkl : k < es.length := by omega
    have hm := hval _ (getD_mem (0, 0) hkl)
    have hd := T.at (first := 0) (Nat.zero_le _) hkl
    rw [List.drop_zero] at hd
    have hdk := hdN k hkl
    repeat first | (with_reducible first | refine Wp.seq ?_ | refine Wp.reg ?_ | refine Wp.block ?_ | refine Wp.skip ?_ | refine Wp.ret ?_ | refine Wp.exit ?_ | refine Wp.label ?_ | refine Wp.condG ?_) | simp (disch := omega) only [↓RP, RQ, TS, TR, ↓reduceIte, Nat.reduceEqDiff, Nat.reduceLT, Nat.reduceLeDiff, Int.reduceLT, Int.reduceLE, Int.reduceEq, Int.reduceAdd, Int.reduceSub, Int.reduceNeg, Int.reduceToNat, Nat.reduceAdd, Nat.reduceMul, Nat.reduceSub, reduceCtorEq, RC, Int.cast_ofNat_Int, hn, g1, g5, g6, g7]
    refine hS.eSlice [I k] tP29 tF29 rfl rfl (by simp [Value.cells]) rfl rfl (by decide) (by decide) fun cv H5 hS5 => ?_
    have hS5 := hS5.front
    have hv5 : Sl2 H5 ev _ _ es := hS5.base hE
    repeat first | (with_reducible first | refine Wp.seq ?_ | refine Wp.reg ?_ | refine Wp.block ?_ | refine Wp.skip ?_ | refine Wp.ret ?_ | refine Wp.exit ?_ | refine Wp.label ?_ | refine Wp.condG ?_) | with_reducible refine Wp.drw hmix (by kernel_rfl) ?_ | simp (disch := omega) only [↓RP, RQ, TS, TR, ↓reduceIte, Nat.reduceEqDiff, Nat.reduceLT, Nat.reduceLeDiff, Int.reduceLT, Int.reduceLE, Int.reduceEq, Int.reduceAdd, Int.reduceSub, Int.reduceNeg, Int.reduceToNat, Nat.reduceAdd, Nat.reduceMul, Nat.reduceSub, reduceCtorEq, RC, Int.cast_ofNat_Int, hn, g1, g5, g6, g7, hv5.idx, hv5.fld, hv5.ld0 (0, 0), hv5.ld1 (0, 0)]
    refine condW_cut (fun e l H2 => l.length = 106 ∧ get l 1 = ev ∧ get l 5 = st ∧ get l 6 = bv ∧ get l 7 = I k ∧
      ((e = .normal ∧ 0 ≤ dT es N 0 k ∧ ∃ cv, get l 8 = cv ∧ St Try.prog H H2 (⟨cv, 1, nts (cyc es N 0 k)⟩ :: ⟨bv, 1, nts b⟩ :: ⟨st, 1, (List.range N).map ws⟩ :: inner N ws rows)) ∨
       (e = .exit 1 ∧ ¬ 0 ≤ dT es N 0 k ∧ St Try.prog H H2 (⟨bv, 1, nts b⟩ :: ⟨st, 1, (List.range N).map ws⟩ :: inner N ws rows)))) ?_ ?_
    · refine condW_split (fun h3 => ?_) (fun h3 => ?_)
      · have hne : (es.getD k (0, 0)).2 ≠ (es.getD k (0, 0)).1 := fun e => h3 (by rw [e])
        have hst5 : Sl1 H5 st ws (List.range N) := hS5.rd 2 rfl
        have hrow5 : ∀ i, i < N → Sl1 H5 (ws i) (fun n : Nat => I n) (rows i) := fun i hi => hS5.rd (i + 3) (inner_get N ws rows i hi)
        have hr5 := hrow5 _ hm.2
        have hrl : (List.range N).length = N := List.length_range
        have hrlen := (hrows _ hm.2).len
        have hse := steps_eq hd hrows hm.1 hm.2 hne
        have hdT : dT es N 0 k = (dI es N 0 k).getD (es.getD k (0, 0)).2 0 := rfl
        repeat first | (with_reducible first | refine Wp.seq ?_ | refine Wp.reg ?_ | refine Wp.block ?_ | refine Wp.skip ?_ | refine Wp.ret ?_ | refine Wp.exit ?_ | refine Wp.label ?_ | refine Wp.condG ?_) | with_reducible refine Wp.drw hmix (by kernel_rfl) ?_ | simp (disch := omega) only [↓RP, RQ, TS, TR, ↓reduceIte, Nat.reduceEqDiff, Nat.reduceLT, Nat.reduceLeDiff, Int.reduceLT, Int.reduceLE, Int.reduceEq, Int.reduceAdd, Int.reduceSub, Int.reduceNeg, Int.reduceToNat, Nat.reduceAdd, Nat.reduceMul, Nat.reduceSub, reduceCtorEq, RC, Int.cast_ofNat_Int, hn, g1, g5, g6, g7, hv5.idx, hv5.fld, hv5.ld0 (0, 0), hv5.ld1 (0, 0), hst5.idx, hst5.ld 0, getD_range, hr5.idx, hr5.ld 0]
        refine condW_split (fun h4 => ?_) (fun h4 => ?_)
        · rw [if_pos (by omega)] at hse
          repeat first | (with_reducible first | refine Wp.seq ?_ | refine Wp.reg ?_ | refine Wp.block ?_ | refine Wp.skip ?_ | refine Wp.ret ?_ | refine Wp.exit ?_ | refine Wp.label ?_ | refine Wp.condG ?_) | simp (disch := omega) only [↓RP, RQ, TS, TR, ↓reduceIte, Nat.reduceEqDiff, Nat.reduceLT, Nat.reduceLeDiff, Int.reduceLT, Int.reduceLE, Int.reduceEq, Int.reduceAdd, Int.reduceSub, Int.reduceNeg, Int.reduceToNat, Nat.reduceAdd, Nat.reduceMul, Nat.reduceSub, reduceCtorEq, RC, Int.cast_ofNat_Int, hn, g1, g5, g6, g7]
          exact .inr ⟨by omega, hS5.tail⟩
        · rw [if_neg (by omega)] at hse
          repeat first | (with_reducible first | refine Wp.seq ?_ | refine Wp.reg ?_ | refine Wp.block ?_ | refine Wp.skip ?_ | refine Wp.ret ?_ | refine Wp.exit ?_ | refine Wp.label ?_ | refine Wp.condG ?_) | with_reducible refine Wp.drw hmix (by kernel_rfl) ?_ | simp (disch := omega) only [↓RP, RQ, TS, TR, ↓reduceIte, Nat.reduceEqDiff, Nat.reduceLT, Nat.reduceLeDiff, Int.reduceLT, Int.reduceLE, Int.reduceEq, Int.reduceAdd, Int.reduceSub, Int.reduceNeg, Int.reduceToNat, Nat.reduceAdd, Nat.reduceMul, Nat.reduceSub, reduceCtorEq, RC, Int.cast_ofNat_Int, hn, g1, g5, g6, g7, hv5.idx, hv5.fld, hv5.ld0 (0, 0), hv5.ld1 (0, 0)]
          refine callFW_of (refWalk_ok N ev st es ws rows (dI es N 0 k) (es.getD k (0, 0)).2 (es.getD k (0, 0)).1 (hS5.base hE) hst5 hrow5 hrows hd hval hm.2 hm.1 he hN (by omega) (by omega)) ?_
          rintro wr H6 hS6
          have hS6 := (hS5.trans hS6).front
          have hpl := pF_length es 0 (dI es N 0 k) ((dI es N 0 k).getD (es.getD k (0, 0)).2 0).toNat (es.getD k (0, 0)).2
          repeat first | (with_reducible first | refine Wp.seq ?_ | refine Wp.reg ?_ | refine Wp.block ?_ | refine Wp.skip ?_ | refine Wp.ret ?_ | refine Wp.exit ?_ | refine Wp.label ?_ | refine Wp.condG ?_) | simp (disch := omega) only [↓RP, RQ, TS, TR, ↓reduceIte, Nat.reduceEqDiff, Nat.reduceLT, Nat.reduceLeDiff, Int.reduceLT, Int.reduceLE, Int.reduceEq, Int.reduceAdd, Int.reduceSub, Int.reduceNeg, Int.reduceToNat, Nat.reduceAdd, Nat.reduceMul, Nat.reduceSub, reduceCtorEq, RC, Int.cast_ofNat_Int, hn, g1, g5, g6, g7]
          refine hS6.eAppend 1 rfl (hS6.rd 0 rfl) tP29 (by simp only [nts, List.length_map, List.length_cons, List.length_nil]; omega) fun cv' H7 hS7 => ?_
          simp only [List.nil_append, List.cons_append, List.append_nil, List.set_cons_zero, List.set_cons_succ, setMany_cons, setMany_nil, Nat.zero_add, Nat.mul_one, Nat.add_zero] at hS7
          repeat first | (with_reducible first | refine Wp.seq ?_ | refine Wp.reg ?_ | refine Wp.block ?_ | refine Wp.skip ?_ | refine Wp.ret ?_ | refine Wp.exit ?_ | refine Wp.label ?_ | refine Wp.condG ?_) | simp (disch := omega) only [↓RP, RQ, TS, TR, ↓reduceIte, Nat.reduceEqDiff, Nat.reduceLT, Nat.reduceLeDiff, Int.reduceLT, Int.reduceLE, Int.reduceEq, Int.reduceAdd, Int.reduceSub, Int.reduceNeg, Int.reduceToNat, Nat.reduceAdd, Nat.reduceMul, Nat.reduceSub, reduceCtorEq, RC, Int.cast_ofNat_Int, hn, g1, g5, g6, g7]
          exact .inl ⟨by omega, cv', rfl, hS7.tail⟩
      · have hee : (es.getD k (0, 0)).2 = (es.getD k (0, 0)).1 := by omega
        have h0 : dT es N 0 k = 0 := by
          unfold dT
          rw [hee]
          exact hd.self hm.1
        have hcy : cyc es N 0 k = [k] := by unfold cyc; rw [h0]; rfl
        repeat first | (with_reducible first | refine Wp.seq ?_ | refine Wp.reg ?_ | refine Wp.block ?_ | refine Wp.skip ?_ | refine Wp.ret ?_ | refine Wp.exit ?_ | refine Wp.label ?_ | refine Wp.condG ?_) | simp (disch := omega) only [↓RP, RQ, TS, TR, ↓reduceIte, Nat.reduceEqDiff, Nat.reduceLT, Nat.reduceLeDiff, Int.reduceLT, Int.reduceLE, Int.reduceEq, Int.reduceAdd, Int.reduceSub, Int.reduceNeg, Int.reduceToNat, Nat.reduceAdd, Nat.reduceMul, Nat.reduceSub, reduceCtorEq, RC, Int.cast_ofNat_Int, hn, g1, g5, g6, g7]
        rw [hcy]
        exact .inl ⟨by omega, cv, rfl, hS5⟩
    clear hn g1 g5 g6 g7 hS5 hS hv5
    rintro e l H2 ⟨hn, g1, g5, g6, g7, ⟨rfl, hpos, cv, g8, hS⟩ | ⟨rfl, hneg, hS⟩⟩
    · have hch := cyc_ch T (Nat.zero_le _) hkl hpos
      have hc0 : (cyc es N 0 k).getD 0 0 = k := rfl
      have hcand : cand es N k ↔ ∀ j, j < (cyc es N 0 k).length → k ≤ (cyc es N 0 k).getD j 0 := by
        constructor
        · intro h j hj
          exact h.2 _ (getD_mem' 0 hj)
        · intro h
          refine ⟨hpos, fun i hi => ?_⟩
          obtain ⟨j, hj, rfl⟩ := List.getElem_of_mem hi
          have := h j hj
          rwa [List.getD_eq_getElem?_getD, List.getElem?_eq_getElem hj] at this
      have hcw := hcl k hkl
      have hne : cyc es N 0 k ≠ [] := by simp [cyc]
      have hclen := hch.2.2
      generalize hcc : cyc es N 0 k = c at hS hc0 hcand hclen hne
      have hc1 : Sl1 H2 cv (fun n : Nat => I n) c := hS.rd 0 rfl
      have hb1 : Sl1 H2 bv (fun n : Nat => I n) b := hS.rd 1 rfl
      repeat first | (with_reducible first | refine Wp.seq ?_ | refine Wp.reg ?_ | refine Wp.block ?_ | refine Wp.skip ?_ | refine Wp.ret ?_ | refine Wp.exit ?_ | refine Wp.label ?_ | refine Wp.condG ?_) | simp (disch := omega) only [↓RP, RQ, TS, TR, ↓reduceIte, Nat.reduceEqDiff, Nat.reduceLT, Nat.reduceLeDiff, Int.reduceLT, Int.reduceLE, Int.reduceEq, Int.reduceAdd, Int.reduceSub, Int.reduceNeg, Int.reduceToNat, Nat.reduceAdd, Nat.reduceMul, Nat.reduceSub, reduceCtorEq, RC, Int.cast_ofNat_Int, hn, g1, g5, g6, g7, g8]
      refine Wp.mono (Q := fun e l2 H3 => e = .exit 2 ∧ H3 = H2 ∧ l2.length = 106 ∧ get l2 1 = ev ∧ get l2 5 = st ∧ get l2 6 = bv ∧ get l2 7 = I k ∧ get l2 8 = cv ∧ ∃ x : Bool, get l2 9 = .bool x ∧ (x = true ↔ cand es N k)) ?_ ?_
      · refine Wp.loopN (fun m l2 H3 => H3 = H2 ∧ l2.length = 106 ∧ get l2 1 = ev ∧ get l2 5 = st ∧ get l2 6 = bv ∧ get l2 7 = I k ∧ get l2 8 = cv ∧ ∃ (i : Nat) (x : Bool), m + i = c.length ∧ get l2 10 = I i ∧ get l2 9 = .bool x ∧ (x = true ↔ ∀ j, j < i → k ≤ c.getD j 0)) c.length ?_ ?_
        · repeat first | (with_reducible first | refine Wp.seq ?_ | refine Wp.reg ?_ | refine Wp.block ?_ | refine Wp.skip ?_ | refine Wp.ret ?_ | refine Wp.exit ?_ | refine Wp.label ?_ | refine Wp.condG ?_) | simp (disch := omega) only [↓RP, RQ, TS, TR, ↓reduceIte, Nat.reduceEqDiff, Nat.reduceLT, Nat.reduceLeDiff, Int.reduceLT, Int.reduceLE, Int.reduceEq, Int.reduceAdd, Int.reduceSub, Int.reduceNeg, Int.reduceToNat, Nat.reduceAdd, Nat.reduceMul, Nat.reduceSub, reduceCtorEq, RC, Int.cast_ofNat_Int, hn, g1, g5, g6, g7, g8]
          exact ⟨0, true, rfl, rfl, rfl, fun _ j hj => absurd hj (Nat.not_lt_zero _), fun _ => rfl⟩
        clear hn g1 g5 g6 g7 g8
        rintro m l2 H3 ⟨rfl, hn, g1, g5, g6, g7, g8, i, x, hi, g10, g9, hx⟩
        repeat first | (with_reducible first | refine Wp.seq ?_ | refine Wp.reg ?_ | refine Wp.block ?_ | refine Wp.skip ?_ | refine Wp.ret ?_ | refine Wp.exit ?_ | refine Wp.label ?_ | refine Wp.condG ?_) | simp (disch := omega) only [↓RP, RQ, TS, TR, ↓reduceIte, Nat.reduceEqDiff, Nat.reduceLT, Nat.reduceLeDiff, Int.reduceLT, Int.reduceLE, Int.reduceEq, Int.reduceAdd, Int.reduceSub, Int.reduceNeg, Int.reduceToNat, Nat.reduceAdd, Nat.reduceMul, Nat.reduceSub, reduceCtorEq, RC, Int.cast_ofNat_Int, hn, g1, g5, g6, g7, g8, g9, g10, hc1.len]
        refine condW_split (fun h4 => ?_) (fun h4 => ?_)
        · cases x with
          | true =>
            repeat first | (with_reducible first | refine Wp.seq ?_ | refine Wp.reg ?_ | refine Wp.block ?_ | refine Wp.skip ?_ | refine Wp.ret ?_ | refine Wp.exit ?_ | refine Wp.label ?_ | refine Wp.condG ?_) | simp (disch := omega) only [↓RP, RQ, TS, TR, ↓reduceIte, Nat.reduceEqDiff, Nat.reduceLT, Nat.reduceLeDiff, Int.reduceLT, Int.reduceLE, Int.reduceEq, Int.reduceAdd, Int.reduceSub, Int.reduceNeg, Int.reduceToNat, Nat.reduceAdd, Nat.reduceMul, Nat.reduceSub, reduceCtorEq, RC, Int.cast_ofNat_Int, hn, g1, g5, g6, g7, g8, g9, g10, hc1.idx, hc1.ld 0, wrap_fit]
            refine ⟨m - 1, by omega, i + 1, _, by omega, rfl, rfl, ?_⟩
            rw [decide_eq_true_eq]
            have hx' := hx.1 rfl
            constructor
            · intro h5 j hj
              by_cases e : j = i
              · subst e; omega
              · exact hx' j (by omega)
            · intro h5
              have := h5 i (by omega)
              omega
          | false =>
            repeat first | (with_reducible first | refine Wp.seq ?_ | refine Wp.reg ?_ | refine Wp.block ?_ | refine Wp.skip ?_ | refine Wp.ret ?_ | refine Wp.exit ?_ | refine Wp.label ?_ | refine Wp.condG ?_) | simp (disch := omega) only [↓RP, RQ, TS, TR, ↓reduceIte, Nat.reduceEqDiff, Nat.reduceLT, Nat.reduceLeDiff, Int.reduceLT, Int.reduceLE, Int.reduceEq, Int.reduceAdd, Int.reduceSub, Int.reduceNeg, Int.reduceToNat, Nat.reduceAdd, Nat.reduceMul, Nat.reduceSub, reduceCtorEq, RC, Int.cast_ofNat_Int, hn, g1, g5, g6, g7, g8, g9, g10, wrap_fit]
            refine ⟨m - 1, by omega, i + 1, false, by omega, rfl, rfl, ?_⟩
            constructor
            · intro h5; cases h5
            · intro h5
              exact hx.2 fun j hj => h5 j (by omega)
        · repeat first | (with_reducible first | refine Wp.seq ?_ | refine Wp.reg ?_ | refine Wp.block ?_ | refine Wp.skip ?_ | refine Wp.ret ?_ | refine Wp.exit ?_ | refine Wp.label ?_ | refine Wp.condG ?_) | simp (disch := omega) only [↓RP, RQ, TS, TR, ↓reduceIte, Nat.reduceEqDiff, Nat.reduceLT, Nat.reduceLeDiff, Int.reduceLT, Int.reduceLE, Int.reduceEq, Int.reduceAdd, Int.reduceSub, Int.reduceNeg, Int.reduceToNat, Nat.reduceAdd, Nat.reduceMul, Nat.reduceSub, reduceCtorEq, RC, Int.cast_ofNat_Int, hn, g1, g5, g6, g7, g8, g9, g10]
          refine ⟨x, rfl, ?_⟩
          rw [hx, hcand]
          rw [show i = c.length from by omega]
      · clear hn g1 g5 g6 g7 g8
        rintro e l H3 ⟨rfl, rfl, hn, g1, g5, g6, g7, g8, x, g9, hx⟩
        cases x with
        | false =>
          have hnc : ¬ cand es N k := fun hh => by have := hx.2 hh; cases this
          repeat first | (with_reducible first | refine Wp.seq ?_ | refine Wp.reg ?_ | refine Wp.block ?_ | refine Wp.skip ?_ | refine Wp.ret ?_ | refine Wp.exit ?_ | refine Wp.label ?_ | refine Wp.condG ?_) | simp (disch := omega) only [↓RP, RQ, TS, TR, ↓reduceIte, Nat.reduceEqDiff, Nat.reduceLT, Nat.reduceLeDiff, Int.reduceLT, Int.reduceLE, Int.reduceEq, Int.reduceAdd, Int.reduceSub, Int.reduceNeg, Int.reduceToNat, Nat.reduceAdd, Nat.reduceMul, Nat.reduceSub, reduceCtorEq, RC, Int.cast_ofNat_Int, hn, g1, g5, g6, g7, g8, g9, wrap_fit]
          exact ⟨n - 1, by omega, k + 1, b, bv, by omega, rfl, rfl, hM.none hnc, hbN, hS.tail⟩
        | true =>
          have hcd := hx.1 rfl
          have hnew : (b = [] ∨ dT es N 0 k + 1 < b.length) → Mst (cand es N) (fun i => dT es N 0 i) (fun i => cyc es N 0 i) (k + 1) c := fun hh => by
            have := hM.new (fun _ => by simp [cyc]) (fun j hj => hcl j (by omega)) hcd hh
            rwa [hcc] at this
          have hsub : St Try.prog H H3 (⟨cv, 1, nts c⟩ :: ⟨st, 1, (List.range N).map ws⟩ :: inner N ws rows) := hS.sub (.cons_cons _ (.cons _ (.refl _)))
          by_cases hb0 : b.length = 0
          · have e1 : ((b.length : Nat) : Int) = 0 := by omega
            repeat first | (with_reducible first | refine Wp.seq ?_ | refine Wp.reg ?_ | refine Wp.block ?_ | refine Wp.skip ?_ | refine Wp.ret ?_ | refine Wp.exit ?_ | refine Wp.label ?_ | refine Wp.condG ?_) | simp (disch := omega) only [↓RP, RQ, TS, TR, ↓reduceIte, Nat.reduceEqDiff, Nat.reduceLT, Nat.reduceLeDiff, Int.reduceLT, Int.reduceLE, Int.reduceEq, Int.reduceAdd, Int.reduceSub, Int.reduceNeg, Int.reduceToNat, Nat.reduceAdd, Nat.reduceMul, Nat.reduceSub, reduceCtorEq, RC, Int.cast_ofNat_Int, hn, g1, g5, g6, g7, g8, g9, hb1.len, hc1.len, e1, wrap_fit]
            exact ⟨n - 1, by omega, k + 1, c, cv, by omega, rfl, rfl, hnew (.inl (List.eq_nil_of_length_eq_zero hb0)), by omega, hsub⟩
          · have e1 : ¬ ((b.length : Nat) : Int) = 0 := by omega
            by_cases hb2 : c.length < b.length
            · have e2 : ((c.length : Nat) : Int) < ((b.length : Nat) : Int) := by omega
              repeat first | (with_reducible first | refine Wp.seq ?_ | refine Wp.reg ?_ | refine Wp.block ?_ | refine Wp.skip ?_ | refine Wp.ret ?_ | refine Wp.exit ?_ | refine Wp.label ?_ | refine Wp.condG ?_) | simp (disch := omega) only [↓RP, RQ, TS, TR, ↓reduceIte, Nat.reduceEqDiff, Nat.reduceLT, Nat.reduceLeDiff, Int.reduceLT, Int.reduceLE, Int.reduceEq, Int.reduceAdd, Int.reduceSub, Int.reduceNeg, Int.reduceToNat, Nat.reduceAdd, Nat.reduceMul, Nat.reduceSub, reduceCtorEq, RC, Int.cast_ofNat_Int, hn, g1, g5, g6, g7, g8, g9, hb1.len, hc1.len, e1, e2, wrap_fit]
              exact ⟨n - 1, by omega, k + 1, c, cv, by omega, rfl, rfl, hnew (.inr (by omega)), by omega, hsub⟩
            · have e2 : ¬ ((c.length : Nat) : Int) < ((b.length : Nat) : Int) := by omega
              have hkeep := hM.keep (fun j hj => hcl j (by omega)) (fun e => hb0 (by rw [e]; rfl)) (show ((b.length : Nat) : Int) ≤ dT es N 0 k + 1 by omega)
              by_cases hb3 : c.length = b.length
              · have e3 : ((c.length : Nat) : Int) = ((b.length : Nat) : Int) := by omega
                have hbk : b.getD 0 0 < c.getD 0 0 := by
                  rw [hc0]
                  rcases hM with ⟨h5, _⟩ | ⟨j, h5, _, h6, _⟩
                  · exact (hb0 (by rw [h5]; rfl)).elim
                  · rw [h6]
                    exact h5
                have e5 : ¬ ((b.length : Nat) : Int) < ((b.length : Nat) : Int) := by omega
                repeat first | (with_reducible first | refine Wp.seq ?_ | refine Wp.reg ?_ | refine Wp.block ?_ | refine Wp.skip ?_ | refine Wp.ret ?_ | refine Wp.exit ?_ | refine Wp.label ?_ | refine Wp.condG ?_) | simp (disch := omega) only [↓RP, RQ, TS, TR, ↓reduceIte, Nat.reduceEqDiff, Nat.reduceLT, Nat.reduceLeDiff, Int.reduceLT, Int.reduceLE, Int.reduceEq, Int.reduceAdd, Int.reduceSub, Int.reduceNeg, Int.reduceToNat, Nat.reduceAdd, Nat.reduceMul, Nat.reduceSub, reduceCtorEq, RC, Int.cast_ofNat_Int, hn, g1, g5, g6, g7, g8, g9, hb1.len, hc1.len, e1, e3, e5]
                refine callFW_of (less_ok cv bv c b hc1 hb1 (by omega) (by omega) hbk) ?_
                rintro r H4 ⟨rfl, rfl⟩
                repeat first | (with_reducible first | refine Wp.seq ?_ | refine Wp.reg ?_ | refine Wp.block ?_ | refine Wp.skip ?_ | refine Wp.ret ?_ | refine Wp.exit ?_ | refine Wp.label ?_ | refine Wp.condG ?_) | simp (disch := omega) only [↓RP, RQ, TS, TR, ↓reduceIte, Nat.reduceEqDiff, Nat.reduceLT, Nat.reduceLeDiff, Int.reduceLT, Int.reduceLE, Int.reduceEq, Int.reduceAdd, Int.reduceSub, Int.reduceNeg, Int.reduceToNat, Nat.reduceAdd, Nat.reduceMul, Nat.reduceSub, reduceCtorEq, RC, Int.cast_ofNat_Int, hn, g1, g5, g6, g7, g8, g9, hb1.len, hc1.len, e1, e3, e5, wrap_fit]
                exact ⟨n - 1, by omega, k + 1, b, bv, by omega, rfl, rfl, hkeep, hbN, hS.tail⟩
              · have e3 : ¬ ((c.length : Nat) : Int) = ((b.length : Nat) : Int) := by omega
                repeat first | (with_reducible first | refine Wp.seq ?_ | refine Wp.reg ?_ | refine Wp.block ?_ | refine Wp.skip ?_ | refine Wp.ret ?_ | refine Wp.exit ?_ | refine Wp.label ?_ | refine Wp.condG ?_) | simp (disch := omega) only [↓RP, RQ, TS, TR, ↓reduceIte, Nat.reduceEqDiff, Nat.reduceLT, Nat.reduceLeDiff, Int.reduceLT, Int.reduceLE, Int.reduceEq, Int.reduceAdd, Int.reduceSub, Int.reduceNeg, Int.reduceToNat, Nat.reduceAdd, Nat.reduceMul, Nat.reduceSub, reduceCtorEq, RC, Int.cast_ofNat_Int, hn, g1, g5, g6, g7, g8, g9, hb1.len, hc1.len, e1, e2, e3, wrap_fit]
                exact ⟨n - 1, by omega, k + 1, b, bv, by omega, rfl, rfl, hkeep, hbN, hS.tail⟩
    · repeat first | (with_reducible first | refine Wp.seq ?_ | refine Wp.reg ?_ | refine Wp.block ?_ | refine Wp.skip ?_ | refine Wp.ret ?_ | refine Wp.exit ?_ | refine Wp.label ?_ | refine Wp.condG ?_) | simp (disch := omega) only [↓RP, RQ, TS, TR, ↓reduceIte, Nat.reduceEqDiff, Nat.reduceLT, Nat.reduceLeDiff, Int.reduceLT, Int.reduceLE, Int.reduceEq, Int.reduceAdd, Int.reduceSub, Int.reduceNeg, Int.reduceToNat, Nat.reduceAdd, Nat.reduceMul, Nat.reduceSub, reduceCtorEq, RC, Int.cast_ofNat_Int, hn, g1, g5, g6, g7, wrap_fit]
      exact ⟨n - 1, by omega, k + 1, b, bv, by omega, rfl, rfl, hM.none (fun hh => hneg hh.1), hbN, hS⟩
  · repeat first | (with_reducible first | refine Wp.seq ?_ | refine Wp.reg ?_ | refine Wp.block ?_ | refine Wp.skip ?_ | refine Wp.ret ?_ | refine Wp.exit ?_ | refine Wp.label ?_ | refine Wp.condG ?_) | simp (disch := omega) only [↓RP, RQ, TS, TR, ↓reduceIte, Nat.reduceEqDiff, Nat.reduceLT, Nat.reduceLeDiff, Int.reduceLT, Int.reduceLE, Int.reduceEq, Int.reduceAdd, Int.reduceSub, Int.reduceNeg, Int.reduceToNat, Nat.reduceAdd, Nat.reduceMul, Nat.reduceSub, reduceCtorEq, RC, Int.cast_ofNat_Int, hn, g1, g5, g6, g7]
    have e : k = es.length := by omega
    subst e
    exact ⟨b, hM, hbN, hS.sub (.cons_cons _ (List.nil_sublist _))⟩
end Go.Ds
/-
  The worked example of the layer: a closed run, by the kernel.
-/
namespace Go.Ds
open Go.Proofs

noncomputable def knownRun : Bool := match callF Try.prog (exD Try.prog 3000) 12 [] .nil with
  | some (.bool true, _) => true
  | _ => false
theorem knownRuns : knownRun = true := by kernel_rfl

theorem known_ok (H : Heap) : Fn Try.prog 12 [] H fun r H' => r = .bool true ∧ H' = H := by
  have h := knownRuns
  unfold knownRun at h
  split at h
  · rename_i H1 hr
    exact ⟨⟨Try.f12, rfl, rfl, by kernel_rfl⟩, _, H, CallOk.closed (by rfl) (CallOk.of_run hmix hr) H, rfl, rfl⟩
  · cases h
end Go.Ds
/-
  The law on Reach and Distance: its walk.
-/
namespace Go.Ds
open Go.Proofs Go.Plain
variable {H : Heap}

theorem mkE_length (a : Nat) (ls : List (Nat × Nat)) : (mkE a ls).length = ls.length := by simp [mkE]
theorem mkE_val (a : Nat) (ls : List (Nat × Nat)) : ∀ e ∈ mkE a ls, e.1 < mkN a ∧ e.2 < mkN a := by
  intro e he
  obtain ⟨x, _, rfl⟩ := List.mem_map.1 he
  have : 0 < mkN a := by unfold mkN; omega
  exact ⟨Nat.mod_lt _ this, Nat.mod_lt _ this⟩
theorem mkN_pos (a : Nat) : 0 < mkN a ∧ mkN a ≤ 7 := by unfold mkN; omega

theorem reaches_ok (a c : Nat) (ha : a < 256) (hc : c < 256) (v : Value) (ls : List (Nat × Nat)) (hv : Lk H v ls) (hb : ∀ x ∈ ls, x.1 < 256 ∧ x.2 < 256) : Fn Try.prog 6 [U a, v, U c] H fun r H' => r = .bool true := by
  refine Fn.of_wp (fn := Try.f6) rfl rfl (by kernel_rfl) fun l hl => ?_
  have hn : l.length = 107 := by rw [hl]; rfl
  have g0 : get l 0 = U a := by rw [hl]; rfl
  have g1 : get l 1 = v := by rw [hl]; rfl
  have g2 : get l 2 = U c := by rw [hl]; rfl
  clear hl
  have hv0 : Sl2 H v _ _ ls := hv
  repeat first | (with_reducible first | refine Wp.seq ?_ | refine Wp.reg ?_ | refine Wp.block ?_ | refine Wp.skip ?_ | refine Wp.ret ?_ | refine Wp.exit ?_ | refine Wp.label ?_ | refine Wp.condG ?_) | simp (disch := omega) only [↓RP, RQ, TS, TR, ↓reduceIte, Nat.reduceEqDiff, Nat.reduceLT, Nat.reduceLeDiff, Int.reduceLT, Int.reduceLE, Int.reduceEq, Int.reduceAdd, Int.reduceSub, Int.reduceNeg, Int.reduceToNat, Nat.reduceAdd, Nat.reduceMul, Nat.reduceSub, reduceCtorEq, RC, Int.cast_ofNat_Int, hn, g0, g1, g2]
  refine callFW_of (known_ok H) ?_
  rintro r H1 ⟨rfl, rfl⟩
  repeat first | (with_reducible first | refine Wp.seq ?_ | refine Wp.reg ?_ | refine Wp.block ?_ | refine Wp.skip ?_ | refine Wp.ret ?_ | refine Wp.exit ?_ | refine Wp.label ?_ | refine Wp.condG ?_) | simp (disch := omega) only [↓RP, RQ, TS, TR, ↓reduceIte, Nat.reduceEqDiff, Nat.reduceLT, Nat.reduceLeDiff, Int.reduceLT, Int.reduceLE, Int.reduceEq, Int.reduceAdd, Int.reduceSub, Int.reduceNeg, Int.reduceToNat, Nat.reduceAdd, Nat.reduceMul, Nat.reduceSub, reduceCtorEq, RC, Int.cast_ofNat_Int, hn, g0, g1, g2, hv0.len]
  refine condW_split (fun h => ?_) (fun h => ?_)
  · repeat first | (with_reducible first | refine Wp.seq ?_ | refine Wp.reg ?_ | refine Wp.block ?_ | refine Wp.skip ?_ | refine Wp.ret ?_ | refine Wp.exit ?_ | refine Wp.label ?_ | refine Wp.condG ?_) | simp (disch := omega) only [↓RP, RQ, TS, TR, ↓reduceIte, Nat.reduceEqDiff, Nat.reduceLT, Nat.reduceLeDiff, Int.reduceLT, Int.reduceLE, Int.reduceEq, Int.reduceAdd, Int.reduceSub, Int.reduceNeg, Int.reduceToNat, Nat.reduceAdd, Nat.reduceMul, Nat.reduceSub, reduceCtorEq, RC, Int.cast_ofNat_Int, hn, g0, g1, g2]
    refine callFW_of (known_ok _) ?_
    rintro r H1 ⟨rfl, rfl⟩
    repeat first | (with_reducible first | refine Wp.seq ?_ | refine Wp.reg ?_ | refine Wp.block ?_ | refine Wp.skip ?_ | refine Wp.ret ?_ | refine Wp.exit ?_ | refine Wp.label ?_ | refine Wp.condG ?_) | simp (disch := omega) only [↓RP, RQ, TS, TR, ↓reduceIte, Nat.reduceEqDiff, Nat.reduceLT, Nat.reduceLeDiff, Int.reduceLT, Int.reduceLE, Int.reduceEq, Int.reduceAdd, Int.reduceSub, Int.reduceNeg, Int.reduceToNat, Nat.reduceAdd, Nat.reduceMul, Nat.reduceSub, reduceCtorEq, RC, Int.cast_ofNat_Int, hn, g0, g1, g2]
  repeat first | (with_reducible first | refine Wp.seq ?_ | refine Wp.reg ?_ | refine Wp.block ?_ | refine Wp.skip ?_ | refine Wp.ret ?_ | refine Wp.exit ?_ | refine Wp.label ?_ | refine Wp.condG ?_) | simp (disch := omega) only [↓RP, RQ, TS, TR, ↓reduceIte, Nat.reduceEqDiff, Nat.reduceLT, Nat.reduceLeDiff, Int.reduceLT, Int.reduceLE, Int.reduceEq, Int.reduceAdd, Int.reduceSub, Int.reduceNeg, Int.reduceToNat, Nat.reduceAdd, Nat.reduceMul, Nat.reduceSub, reduceCtorEq, RC, Int.cast_ofNat_Int, hn, g0, g1, g2]
  refine callFW_of (make_ok a ha v ls hv (by omega) hb) ?_
  rintro r H2 ⟨w, rfl, hE, _⟩
  have hN := mkN_pos a
  have hval := mkE_val a ls
  have hl := mkE_length a ls
  generalize mkE a ls = es at hE hval hl
  generalize mkN a = N at hE hval hN
  have hs : c % N < N := Nat.mod_lt _ hN.1
  repeat first | (with_reducible first | refine Wp.seq ?_ | refine Wp.reg ?_ | refine Wp.block ?_ | refine Wp.skip ?_ | refine Wp.ret ?_ | refine Wp.exit ?_ | refine Wp.label ?_ | refine Wp.condG ?_) | simp (disch := omega) only [↓RP, RQ, TS, TR, ↓reduceIte, Nat.reduceEqDiff, Nat.reduceLT, Nat.reduceLeDiff, Int.reduceLT, Int.reduceLE, Int.reduceEq, Int.reduceAdd, Int.reduceSub, Int.reduceNeg, Int.reduceToNat, Nat.reduceAdd, Nat.reduceMul, Nat.reduceSub, reduceCtorEq, RC, Int.cast_ofNat_Int, hn, g0, g1, g2]
  refine (St.refl _ H2).eNew 2 [I 0, .slice none 0 0] rfl rfl rfl tS27 fun A H3 hS => ?_
  repeat first | (with_reducible first | refine Wp.seq ?_ | refine Wp.reg ?_ | refine Wp.block ?_ | refine Wp.skip ?_ | refine Wp.ret ?_ | refine Wp.exit ?_ | refine Wp.label ?_ | refine Wp.condG ?_) | simp (disch := omega) only [↓RP, RQ, TS, TR, ↓reduceIte, Nat.reduceEqDiff, Nat.reduceLT, Nat.reduceLeDiff, Int.reduceLT, Int.reduceLE, Int.reduceEq, Int.reduceAdd, Int.reduceSub, Int.reduceNeg, Int.reduceToNat, Nat.reduceAdd, Nat.reduceMul, Nat.reduceSub, reduceCtorEq, RC, Int.cast_ofNat_Int, hn, g0, g1, g2]
  refine hS.eStore 0 rfl [I N, w] rfl (by simp [hE.one]; rfl) tS27 (by simp) fun H4 hS => ?_
  simp only [List.nil_append, List.cons_append, List.append_nil, List.set_cons_zero, List.set_cons_succ, setMany_cons, setMany_nil, Nat.zero_add, Nat.mul_one, Nat.add_zero] at hS
  repeat first | (with_reducible first | refine Wp.seq ?_ | refine Wp.reg ?_ | refine Wp.block ?_ | refine Wp.skip ?_ | refine Wp.ret ?_ | refine Wp.exit ?_ | refine Wp.label ?_ | refine Wp.condG ?_) | simp (disch := omega) only [↓RP, RQ, TS, TR, ↓reduceIte, Nat.reduceEqDiff, Nat.reduceLT, Nat.reduceLeDiff, Int.reduceLT, Int.reduceLE, Int.reduceEq, Int.reduceAdd, Int.reduceSub, Int.reduceNeg, Int.reduceToNat, Nat.reduceAdd, Nat.reduceMul, Nat.reduceSub, reduceCtorEq, RC, Int.cast_ofNat_Int, hn, g0, g1, g2, hS.ld 0 rfl, wrap_fit, tmod_nat, hS.ldA 0 rfl]
  generalize c % N = s at hs
  refine callFW_of (reach_ok N w es (hS.base hE) (by omega) (by omega) hval s hs) ?_
  rintro r H5 ⟨d, wr, rfl, hd, hS5⟩
  have hS := hS.trans hS5
  simp only [List.nil_append, List.cons_append, List.append_nil, List.set_cons_zero, List.set_cons_succ, setMany_cons, setMany_nil, Nat.zero_add, Nat.mul_one, Nat.add_zero] at hS
  repeat first | (with_reducible first | refine Wp.seq ?_ | refine Wp.reg ?_ | refine Wp.block ?_ | refine Wp.skip ?_ | refine Wp.ret ?_ | refine Wp.exit ?_ | refine Wp.label ?_ | refine Wp.condG ?_) | simp (disch := omega) only [↓RP, RQ, TS, TR, ↓reduceIte, Nat.reduceEqDiff, Nat.reduceLT, Nat.reduceLeDiff, Int.reduceLT, Int.reduceLE, Int.reduceEq, Int.reduceAdd, Int.reduceSub, Int.reduceNeg, Int.reduceToNat, Nat.reduceAdd, Nat.reduceMul, Nat.reduceSub, reduceCtorEq, RC, Int.cast_ofNat_Int, hn, g0, g1, g2, hS.ldA 0 rfl]
  refine callFW_of (distance_ok N w es (hS.base hE) (by omega) (by omega) hval s hs) ?_
  rintro r H6 ⟨d', wd, rfl, hd', hS6⟩
  obtain rfl := hd.eq hd'
  have hS6 := hS.trans hS6
  simp only [List.nil_append, List.cons_append, List.append_nil, List.set_cons_zero, List.set_cons_succ, setMany_cons, setMany_nil, Nat.zero_add, Nat.mul_one, Nat.add_zero] at hS6
  repeat first | (with_reducible first | refine Wp.seq ?_ | refine Wp.reg ?_ | refine Wp.block ?_ | refine Wp.skip ?_ | refine Wp.ret ?_ | refine Wp.exit ?_ | refine Wp.label ?_ | refine Wp.condG ?_) | simp (disch := omega) only [↓RP, RQ, TS, TR, ↓reduceIte, Nat.reduceEqDiff, Nat.reduceLT, Nat.reduceLeDiff, Int.reduceLT, Int.reduceLE, Int.reduceEq, Int.reduceAdd, Int.reduceSub, Int.reduceNeg, Int.reduceToNat, Nat.reduceAdd, Nat.reduceMul, Nat.reduceSub, reduceCtorEq, RC, Int.cast_ofNat_Int, hn, g0, g1, g2]
  refine Wp.drwT hmix [(1, 4)] (by kernel_rfl) (by kernel_rfl) ?_
  repeat first | (with_reducible first | refine Wp.seq ?_ | refine Wp.reg ?_ | refine Wp.block ?_ | refine Wp.skip ?_ | refine Wp.ret ?_ | refine Wp.exit ?_ | refine Wp.label ?_ | refine Wp.condG ?_) | simp (disch := omega) only [↓RP, RQ, TS, TR, ↓reduceIte, Nat.reduceEqDiff, Nat.reduceLT, Nat.reduceLeDiff, Int.reduceLT, Int.reduceLE, Int.reduceEq, Int.reduceAdd, Int.reduceSub, Int.reduceNeg, Int.reduceToNat, Nat.reduceAdd, Nat.reduceMul, Nat.reduceSub, reduceCtorEq, RC, Int.cast_ofNat_Int, hn, g0, g1, g2, hS6.ldA 0 rfl, hS6.ld 0 rfl]
  refine callFW_of (edges_ok N w es (hS6.base hE) (by omega)) ?_
  rintro ev H7 ⟨hEv, hS7⟩
  have hS7 := hS6.trans hS7
  simp only [List.nil_append, List.cons_append, List.append_nil, List.set_cons_zero, List.set_cons_succ, setMany_cons, setMany_nil, Nat.zero_add, Nat.mul_one, Nat.add_zero] at hS7
  repeat first | (with_reducible first | refine Wp.seq ?_ | refine Wp.reg ?_ | refine Wp.block ?_ | refine Wp.skip ?_ | refine Wp.ret ?_ | refine Wp.exit ?_ | refine Wp.label ?_ | refine Wp.condG ?_) | simp (disch := omega) only [↓RP, RQ, TS, TR, ↓reduceIte, Nat.reduceEqDiff, Nat.reduceLT, Nat.reduceLeDiff, Int.reduceLT, Int.reduceLE, Int.reduceEq, Int.reduceAdd, Int.reduceSub, Int.reduceNeg, Int.reduceToNat, Nat.reduceAdd, Nat.reduceMul, Nat.reduceSub, reduceCtorEq, RC, Int.cast_ofNat_Int, hn, g0, g1, g2]
  refine callFW_of (steps_ok N ev es hEv (by omega) (by omega) hval) ?_
  rintro st H8 ⟨ws, rows, hrows, hS8⟩
  have hS8 := hS7.trans hS8
  simp only [List.nil_append, List.cons_append, List.append_nil, List.set_cons_zero, List.set_cons_succ, setMany_cons, setMany_nil, Nat.zero_add, Nat.mul_one, Nat.add_zero] at hS8
  have hwd : Sl1 H8 wd (.int .i64) d := hS8.rd 2 rfl
  have hwr : Sl1 H8 wr (fun n : Nat => I n) ((List.range N).filter fun k => decide (0 ≤ d.getD k 0)) := hS8.rd 1 rfl
  have hst : Sl1 H8 st ws (List.range N) := hS8.rd 3 rfl
  have hdl := hd.len
  have hrl : (List.range N).length = N := List.length_range
  repeat first | (with_reducible first | refine Wp.seq ?_ | refine Wp.reg ?_ | refine Wp.block ?_ | refine Wp.skip ?_ | refine Wp.ret ?_ | refine Wp.exit ?_ | refine Wp.label ?_ | refine Wp.condG ?_) | simp (disch := omega) only [↓RP, RQ, TS, TR, ↓reduceIte, Nat.reduceEqDiff, Nat.reduceLT, Nat.reduceLeDiff, Int.reduceLT, Int.reduceLE, Int.reduceEq, Int.reduceAdd, Int.reduceSub, Int.reduceNeg, Int.reduceToNat, Nat.reduceAdd, Nat.reduceMul, Nat.reduceSub, reduceCtorEq, RC, Int.cast_ofNat_Int, hn, g0, g1, g2, hS7.ld 0 rfl, hS8.ld 0 rfl, hwd.len]
  refine condW_split (fun h => absurd h (by omega)) (fun _ => ?_)
  repeat first | (with_reducible first | refine Wp.seq ?_ | refine Wp.reg ?_ | refine Wp.block ?_ | refine Wp.skip ?_ | refine Wp.ret ?_ | refine Wp.exit ?_ | refine Wp.label ?_ | refine Wp.condG ?_) | simp (disch := omega) only [↓RP, RQ, TS, TR, ↓reduceIte, Nat.reduceEqDiff, Nat.reduceLT, Nat.reduceLeDiff, Int.reduceLT, Int.reduceLE, Int.reduceEq, Int.reduceAdd, Int.reduceSub, Int.reduceNeg, Int.reduceToNat, Nat.reduceAdd, Nat.reduceMul, Nat.reduceSub, reduceCtorEq, RC, Int.cast_ofNat_Int, hn, g0, g1, g2]
  have hrow : Sl1 H8 (ws s) (fun n : Nat => I n) (rows s) := hS8.rd (s + 4) (inner_get N ws rows s hs)
  have hwant := fun i hi => want_eq hd (hrows s hs) i hi
  have hrlen := (hrows s hs).len
  refine Wp.loopN (fun n l H' => H' = H8 ∧ l.length = 107 ∧ get l 7 = ptr A 0 2 ∧ get l 8 = I s ∧ get l 9 = wr ∧ get l 11 = wd ∧ get l 13 = st ∧ ∃ i : Nat, n + i = N ∧ get l 15 = I i ∧
    get l 14 = I ((List.range i).filter fun k => decide (0 ≤ d.getD k 0)).length) N ?_ ?_
  · repeat first | (with_reducible first | refine Wp.seq ?_ | refine Wp.reg ?_ | refine Wp.block ?_ | refine Wp.skip ?_ | refine Wp.ret ?_ | refine Wp.exit ?_ | refine Wp.label ?_ | refine Wp.condG ?_) | simp (disch := omega) only [↓RP, RQ, TS, TR, ↓reduceIte, Nat.reduceEqDiff, Nat.reduceLT, Nat.reduceLeDiff, Int.reduceLT, Int.reduceLE, Int.reduceEq, Int.reduceAdd, Int.reduceSub, Int.reduceNeg, Int.reduceToNat, Nat.reduceAdd, Nat.reduceMul, Nat.reduceSub, reduceCtorEq, RC, Int.cast_ofNat_Int, hn, g0, g1, g2]
    exact ⟨0, rfl, rfl, rfl⟩
  clear hn g0 g1 g2
  rintro n l H' ⟨rfl, hn, g7, g8, g9, g11, g13, i, hi, g15, g14⟩
  repeat first | (with_reducible first | refine Wp.seq ?_ | refine Wp.reg ?_ | refine Wp.block ?_ | refine Wp.skip ?_ | refine Wp.ret ?_ | refine Wp.exit ?_ | refine Wp.label ?_ | refine Wp.condG ?_) | simp (disch := omega) only [↓RP, RQ, TS, TR, ↓reduceIte, Nat.reduceEqDiff, Nat.reduceLT, Nat.reduceLeDiff, Int.reduceLT, Int.reduceLE, Int.reduceEq, Int.reduceAdd, Int.reduceSub, Int.reduceNeg, Int.reduceToNat, Nat.reduceAdd, Nat.reduceMul, Nat.reduceSub, reduceCtorEq, RC, Int.cast_ofNat_Int, hn, g7, g8, g9, g11, g13, g14, g15, hS8.ld 0 rfl]
  refine condW_split (fun h3 => ?_) (fun h3 => ?_)
  · have hiN : i < N := by omega
    have hw := hwant i hiN
    repeat first | (with_reducible first | refine Wp.seq ?_ | refine Wp.reg ?_ | refine Wp.block ?_ | refine Wp.skip ?_ | refine Wp.ret ?_ | refine Wp.exit ?_ | refine Wp.label ?_ | refine Wp.condG ?_) | simp (disch := omega) only [↓RP, RQ, TS, TR, ↓reduceIte, Nat.reduceEqDiff, Nat.reduceLT, Nat.reduceLeDiff, Int.reduceLT, Int.reduceLE, Int.reduceEq, Int.reduceAdd, Int.reduceSub, Int.reduceNeg, Int.reduceToNat, Nat.reduceAdd, Nat.reduceMul, Nat.reduceSub, reduceCtorEq, RC, Int.cast_ofNat_Int, hn, g7, g8, g9, g11, g13, g14, g15, hst.idx, hst.ld 0, getD_range, hrow.idx, hrow.ld 0]
    refine condW_cut (fun e l H2 => e = .normal ∧ H2 = H' ∧ l.length = 107 ∧ get l 7 = ptr A 0 2 ∧ get l 8 = I s ∧ get l 9 = wr ∧ get l 11 = wd ∧ get l 13 = st ∧ get l 15 = I i ∧ get l 14 = I ((List.range i).filter fun k => decide (0 ≤ d.getD k 0)).length ∧ get l 16 = I (d.getD i 0)) ?_ ?_
    · refine condW_split (fun h4 => ?_) (fun h4 => ?_)
      · repeat first | (with_reducible first | refine Wp.seq ?_ | refine Wp.reg ?_ | refine Wp.block ?_ | refine Wp.skip ?_ | refine Wp.ret ?_ | refine Wp.exit ?_ | refine Wp.label ?_ | refine Wp.condG ?_) | simp (disch := omega) only [↓RP, RQ, TS, TR, ↓reduceIte, Nat.reduceEqDiff, Nat.reduceLT, Nat.reduceLeDiff, Int.reduceLT, Int.reduceLE, Int.reduceEq, Int.reduceAdd, Int.reduceSub, Int.reduceNeg, Int.reduceToNat, Nat.reduceAdd, Nat.reduceMul, Nat.reduceSub, reduceCtorEq, RC, Int.cast_ofNat_Int, hn, g7, g8, g9, g11, g13, g14, g15]
        rw [hw, if_pos (by omega)]
      · repeat first | (with_reducible first | refine Wp.seq ?_ | refine Wp.reg ?_ | refine Wp.block ?_ | refine Wp.skip ?_ | refine Wp.ret ?_ | refine Wp.exit ?_ | refine Wp.label ?_ | refine Wp.condG ?_) | simp (disch := omega) only [↓RP, RQ, TS, TR, ↓reduceIte, Nat.reduceEqDiff, Nat.reduceLT, Nat.reduceLeDiff, Int.reduceLT, Int.reduceLE, Int.reduceEq, Int.reduceAdd, Int.reduceSub, Int.reduceNeg, Int.reduceToNat, Nat.reduceAdd, Nat.reduceMul, Nat.reduceSub, reduceCtorEq, RC, Int.cast_ofNat_Int, hn, g7, g8, g9, g11, g13, g14, g15]
        rw [if_neg (by omega)] at hw
        refine condW_split (fun h5 => ?_) (fun h5 => ?_)
        · repeat first | (with_reducible first | refine Wp.seq ?_ | refine Wp.reg ?_ | refine Wp.block ?_ | refine Wp.skip ?_ | refine Wp.ret ?_ | refine Wp.exit ?_ | refine Wp.label ?_ | refine Wp.condG ?_) | simp (disch := omega) only [↓RP, RQ, TS, TR, ↓reduceIte, Nat.reduceEqDiff, Nat.reduceLT, Nat.reduceLeDiff, Int.reduceLT, Int.reduceLE, Int.reduceEq, Int.reduceAdd, Int.reduceSub, Int.reduceNeg, Int.reduceToNat, Nat.reduceAdd, Nat.reduceMul, Nat.reduceSub, reduceCtorEq, RC, Int.cast_ofNat_Int, hn, g7, g8, g9, g11, g13, g14, g15]
          rw [hw, if_pos (by omega)]
        · repeat first | (with_reducible first | refine Wp.seq ?_ | refine Wp.reg ?_ | refine Wp.block ?_ | refine Wp.skip ?_ | refine Wp.ret ?_ | refine Wp.exit ?_ | refine Wp.label ?_ | refine Wp.condG ?_) | simp (disch := omega) only [↓RP, RQ, TS, TR, ↓reduceIte, Nat.reduceEqDiff, Nat.reduceLT, Nat.reduceLeDiff, Int.reduceLT, Int.reduceLE, Int.reduceEq, Int.reduceAdd, Int.reduceSub, Int.reduceNeg, Int.reduceToNat, Nat.reduceAdd, Nat.reduceMul, Nat.reduceSub, reduceCtorEq, RC, Int.cast_ofNat_Int, hn, g7, g8, g9, g11, g13, g14, g15]
          rw [hw, if_neg (by omega)]
    clear hn g7 g8 g9 g11 g13 g14 g15
    rintro e l H2 ⟨rfl, rfl, hn, g7, g8, g9, g11, g13, g15, g14, g16⟩
    repeat first | (with_reducible first | refine Wp.seq ?_ | refine Wp.reg ?_ | refine Wp.block ?_ | refine Wp.skip ?_ | refine Wp.ret ?_ | refine Wp.exit ?_ | refine Wp.label ?_ | refine Wp.condG ?_) | simp (disch := omega) only [↓RP, RQ, TS, TR, ↓reduceIte, Nat.reduceEqDiff, Nat.reduceLT, Nat.reduceLeDiff, Int.reduceLT, Int.reduceLE, Int.reduceEq, Int.reduceAdd, Int.reduceSub, Int.reduceNeg, Int.reduceToNat, Nat.reduceAdd, Nat.reduceMul, Nat.reduceSub, reduceCtorEq, RC, Int.cast_ofNat_Int, hn, g7, g8, g9, g11, g13, g14, g15, g16, hwd.idx, hwd.ld 0]
    refine condW_split (fun h4 => ?_) (fun h4 => ?_)
    · have hf := filter_at (fun k => decide (0 ≤ d.getD k 0)) N i hiN (decide_eq_true h4)
      repeat first | (with_reducible first | refine Wp.seq ?_ | refine Wp.reg ?_ | refine Wp.block ?_ | refine Wp.skip ?_ | refine Wp.ret ?_ | refine Wp.exit ?_ | refine Wp.label ?_ | refine Wp.condG ?_) | simp (disch := omega) only [↓RP, RQ, TS, TR, ↓reduceIte, Nat.reduceEqDiff, Nat.reduceLT, Nat.reduceLeDiff, Int.reduceLT, Int.reduceLE, Int.reduceEq, Int.reduceAdd, Int.reduceSub, Int.reduceNeg, Int.reduceToNat, Nat.reduceAdd, Nat.reduceMul, Nat.reduceSub, reduceCtorEq, RC, Int.cast_ofNat_Int, hn, g7, g8, g9, g11, g13, g14, g15, g16, hwr.len]
      have hfl : ((List.range i).filter fun k => decide (0 ≤ d.getD k 0)).length ≤ i := by
        have := List.length_filter_le (fun k => decide (0 ≤ d.getD k 0)) (List.range i)
        simpa using this
      generalize hc1 : ((List.range i).filter fun k => decide (0 ≤ d.getD k 0)).length = c1 at hf g14 hfl ⊢
      generalize hc2 : ((List.range N).filter fun k => decide (0 ≤ d.getD k 0)) = c2 at hf hwr ⊢
      refine letG_split' (fun h5 => absurd h5 (by omega)) (fun h5 => ?_)
      have hf2 : (c2.getD c1 0 : Int) = i := by rw [hf.2]
      repeat first | (with_reducible first | refine Wp.seq ?_ | refine Wp.reg ?_ | refine Wp.block ?_ | refine Wp.skip ?_ | refine Wp.ret ?_ | refine Wp.exit ?_ | refine Wp.label ?_ | refine Wp.condG ?_) | simp (disch := omega) only [↓RP, RQ, TS, TR, ↓reduceIte, Nat.reduceEqDiff, Nat.reduceLT, Nat.reduceLeDiff, Int.reduceLT, Int.reduceLE, Int.reduceEq, Int.reduceAdd, Int.reduceSub, Int.reduceNeg, Int.reduceToNat, Nat.reduceAdd, Nat.reduceMul, Nat.reduceSub, reduceCtorEq, RC, Int.cast_ofNat_Int, hn, g7, g8, g9, g11, g13, g14, g15, g16, hwr.len, h5, hwr.idx, hwr.ld 0, hf2, wrap_fit]
      refine ⟨n - 1, by omega, i + 1, by omega, rfl, ?_⟩
      rw [List.range_succ, List.filter_append]
      have e : [i].filter (fun k => decide (0 ≤ d.getD k 0)) = [i] := by simp only [List.filter_cons, List.filter_nil, decide_eq_true h4, if_true]
      rw [e, List.length_append, hc1]
      rfl
    · repeat first | (with_reducible first | refine Wp.seq ?_ | refine Wp.reg ?_ | refine Wp.block ?_ | refine Wp.skip ?_ | refine Wp.ret ?_ | refine Wp.exit ?_ | refine Wp.label ?_ | refine Wp.condG ?_) | simp (disch := omega) only [↓RP, RQ, TS, TR, ↓reduceIte, Nat.reduceEqDiff, Nat.reduceLT, Nat.reduceLeDiff, Int.reduceLT, Int.reduceLE, Int.reduceEq, Int.reduceAdd, Int.reduceSub, Int.reduceNeg, Int.reduceToNat, Nat.reduceAdd, Nat.reduceMul, Nat.reduceSub, reduceCtorEq, RC, Int.cast_ofNat_Int, hn, g7, g8, g9, g11, g13, g14, g15, g16, wrap_fit]
      refine ⟨n - 1, by omega, i + 1, by omega, rfl, ?_⟩
      rw [List.range_succ, List.filter_append]
      have e : [i].filter (fun k => decide (0 ≤ d.getD k 0)) = [] := by simp only [List.filter_cons, List.filter_nil, decide_eq_false h4]; rfl
      rw [e, List.append_nil]
  · have e : i = N := by omega
    subst e
    repeat first | (with_reducible first | refine Wp.seq ?_ | refine Wp.reg ?_ | refine Wp.block ?_ | refine Wp.skip ?_ | refine Wp.ret ?_ | refine Wp.exit ?_ | refine Wp.label ?_ | refine Wp.condG ?_) | simp (disch := omega) only [↓RP, RQ, TS, TR, ↓reduceIte, Nat.reduceEqDiff, Nat.reduceLT, Nat.reduceLeDiff, Int.reduceLT, Int.reduceLE, Int.reduceEq, Int.reduceAdd, Int.reduceSub, Int.reduceNeg, Int.reduceToNat, Nat.reduceAdd, Nat.reduceMul, Nat.reduceSub, reduceCtorEq, RC, Int.cast_ofNat_Int, hn, g7, g8, g9, g11, g13, g14, g15, hwr.len]
end Go.Ds
/-
  The law on Cycle: its walk.
-/
namespace Go.Ds
open Go.Proofs Go.Plain
variable {H : Heap}

theorem binB (a b : Bool) : plainD Try.prog ⟨none, .binOp .eql 4 (.tmp 0) (.tmp 1) 4, 4, "", #[], none⟩ [.bool a, .bool b] .nil = some (.bool (a == b), .nil) := by
  cases a <;> cases b <;> kernel_rfl

theorem binW_eqb {l : List Value} {K : Value → Heap → Prop} {d : Option Tmp} {ty : TypeId} {pos : String} {af : Array Edge} {g : Option (Nat × Bool)} {p q : Tmp} {t2 : TypeId} {a b : Bool} (hx : get l p = .bool a) (hy : get l q = .bool b) (h : K (.bool (a == b)) H) :
    binW Try.prog ⟨d, .binOp .eql 4 (.tmp p) (.tmp q) t2, ty, pos, af, g⟩ .eql l H (.bool a) (.bool b) K := by
  have hx' : ev l (.tmp p) = .bool a := hx
  have hy' : ev l (.tmp q) = .bool b := hy
  have h2 : execOp (ev l) ⟨d, .binOp .eql 4 (.tmp p) (.tmp q) t2, ty, pos, af, g⟩ = execOp (ev [.bool a, .bool b]) ⟨none, .binOp .eql 4 (.tmp 0) (.tmp 1) 4, 4, "", #[], none⟩ := by
    simp only [execOp]
    rw [hx', hy']
    rfl
  have h1 : plainD Try.prog ⟨d, .binOp .eql 4 (.tmp p) (.tmp q) t2, ty, pos, af, g⟩ l H = some (.bool (a == b), H) := by
    rw [plain_fst _ _ l [.bool a, .bool b] H ?_ h2, binB]
    · rfl
    · show [ev l (.tmp p), ev l (.tmp q)] = _
      rw [hx', hy']
      rfl
  show bindW (opD Try.prog ⟨d, .binOp .eql 4 (.tmp p) (.tmp q) t2, ty, pos, af, g⟩ l H) K
  have h3 : opD Try.prog ⟨d, .binOp .eql 4 (.tmp p) (.tmp q) t2, ty, pos, af, g⟩ l H = some (.bool (a == b), H) := by
    simp only [opD, hx', hy', h1]
  rw [h3]
  exact h

theorem dT_le (N : Nat) (v : Value) (es : List (Nat × Nat)) (hv : Eg H v es) (hN : N ≤ 200) (he : es.length ≤ 1000) (hval : ∀ e ∈ es, e.1 < N ∧ e.2 < N) : ∀ k, k < es.length → dT es N 0 k ≤ N := by
  intro k hk
  have hm := hval _ (getD_mem' (0, 0) hk)
  obtain ⟨_, r, H1, _, w, rfl, hE, _⟩ := turned_ok N v es hv he
  obtain ⟨_, r2, H2, _, d, hd, hdN, _⟩ := distances_ok N w (tE es) hE hN (by rw [tE_length]; exact he) (tE_val hval) (es.getD k (0, 0)).1 0 hm.1 (Nat.zero_le _)
  rw [tE_drop] at hd
  have : dI es N 0 k = d := dist_eq hd
  unfold dT
  rw [this]
  exact hdN _ hm.2

theorem cycles_ok (a : Nat) (ha : a < 256) (v : Value) (ls : List (Nat × Nat)) (hv : Lk H v ls) (hb : ∀ x ∈ ls, x.1 < 256 ∧ x.2 < 256) : Fn Try.prog 4 [U a, v] H fun r H' => r = .bool true := by
  refine Fn.of_wp (fn := Try.f4) rfl rfl (by kernel_rfl) fun l hl => ?_
  have hn : l.length = 46 := by rw [hl]; rfl
  have g0 : get l 0 = U a := by rw [hl]; rfl
  have g1 : get l 1 = v := by rw [hl]; rfl
  clear hl
  have hv0 : Sl2 H v _ _ ls := hv
  repeat first | (with_reducible first | refine Wp.seq ?_ | refine Wp.reg ?_ | refine Wp.block ?_ | refine Wp.skip ?_ | refine Wp.ret ?_ | refine Wp.exit ?_ | refine Wp.label ?_ | refine Wp.condG ?_) | simp (disch := omega) only [↓RP, RQ, TS, TR, ↓reduceIte, Nat.reduceEqDiff, Nat.reduceLT, Nat.reduceLeDiff, Int.reduceLT, Int.reduceLE, Int.reduceEq, Int.reduceAdd, Int.reduceSub, Int.reduceNeg, Int.reduceToNat, Nat.reduceAdd, Nat.reduceMul, Nat.reduceSub, reduceCtorEq, RC, Int.cast_ofNat_Int, hn, g0, g1]
  refine callFW_of (known_ok H) ?_
  rintro r H1 ⟨rfl, rfl⟩
  repeat first | (with_reducible first | refine Wp.seq ?_ | refine Wp.reg ?_ | refine Wp.block ?_ | refine Wp.skip ?_ | refine Wp.ret ?_ | refine Wp.exit ?_ | refine Wp.label ?_ | refine Wp.condG ?_) | simp (disch := omega) only [↓RP, RQ, TS, TR, ↓reduceIte, Nat.reduceEqDiff, Nat.reduceLT, Nat.reduceLeDiff, Int.reduceLT, Int.reduceLE, Int.reduceEq, Int.reduceAdd, Int.reduceSub, Int.reduceNeg, Int.reduceToNat, Nat.reduceAdd, Nat.reduceMul, Nat.reduceSub, reduceCtorEq, RC, Int.cast_ofNat_Int, hn, g0, g1, hv0.len]
  refine condW_split (fun h => ?_) (fun h => ?_)
  · repeat first | (with_reducible first | refine Wp.seq ?_ | refine Wp.reg ?_ | refine Wp.block ?_ | refine Wp.skip ?_ | refine Wp.ret ?_ | refine Wp.exit ?_ | refine Wp.label ?_ | refine Wp.condG ?_) | simp (disch := omega) only [↓RP, RQ, TS, TR, ↓reduceIte, Nat.reduceEqDiff, Nat.reduceLT, Nat.reduceLeDiff, Int.reduceLT, Int.reduceLE, Int.reduceEq, Int.reduceAdd, Int.reduceSub, Int.reduceNeg, Int.reduceToNat, Nat.reduceAdd, Nat.reduceMul, Nat.reduceSub, reduceCtorEq, RC, Int.cast_ofNat_Int, hn, g0, g1]
    refine callFW_of (known_ok _) ?_
    rintro r H1 ⟨rfl, rfl⟩
    repeat first | (with_reducible first | refine Wp.seq ?_ | refine Wp.reg ?_ | refine Wp.block ?_ | refine Wp.skip ?_ | refine Wp.ret ?_ | refine Wp.exit ?_ | refine Wp.label ?_ | refine Wp.condG ?_) | simp (disch := omega) only [↓RP, RQ, TS, TR, ↓reduceIte, Nat.reduceEqDiff, Nat.reduceLT, Nat.reduceLeDiff, Int.reduceLT, Int.reduceLE, Int.reduceEq, Int.reduceAdd, Int.reduceSub, Int.reduceNeg, Int.reduceToNat, Nat.reduceAdd, Nat.reduceMul, Nat.reduceSub, reduceCtorEq, RC, Int.cast_ofNat_Int, hn, g0, g1]
  repeat first | (with_reducible first | refine Wp.seq ?_ | refine Wp.reg ?_ | refine Wp.block ?_ | refine Wp.skip ?_ | refine Wp.ret ?_ | refine Wp.exit ?_ | refine Wp.label ?_ | refine Wp.condG ?_) | simp (disch := omega) only [↓RP, RQ, TS, TR, ↓reduceIte, Nat.reduceEqDiff, Nat.reduceLT, Nat.reduceLeDiff, Int.reduceLT, Int.reduceLE, Int.reduceEq, Int.reduceAdd, Int.reduceSub, Int.reduceNeg, Int.reduceToNat, Nat.reduceAdd, Nat.reduceMul, Nat.reduceSub, reduceCtorEq, RC, Int.cast_ofNat_Int, hn, g0, g1]
  refine callFW_of (make_ok a ha v ls hv (by omega) hb) ?_
  rintro r H2 ⟨w, rfl, hE, _⟩
  have hN := mkN_pos a
  have hval := mkE_val a ls
  have hl := mkE_length a ls
  generalize mkE a ls = es at hE hval hl
  generalize mkN a = N at hE hval hN
  repeat first | (with_reducible first | refine Wp.seq ?_ | refine Wp.reg ?_ | refine Wp.block ?_ | refine Wp.skip ?_ | refine Wp.ret ?_ | refine Wp.exit ?_ | refine Wp.label ?_ | refine Wp.condG ?_) | simp (disch := omega) only [↓RP, RQ, TS, TR, ↓reduceIte, Nat.reduceEqDiff, Nat.reduceLT, Nat.reduceLeDiff, Int.reduceLT, Int.reduceLE, Int.reduceEq, Int.reduceAdd, Int.reduceSub, Int.reduceNeg, Int.reduceToNat, Nat.reduceAdd, Nat.reduceMul, Nat.reduceSub, reduceCtorEq, RC, Int.cast_ofNat_Int, hn, g0, g1]
  refine (St.refl _ H2).eNew 2 [I 0, .slice none 0 0] rfl rfl rfl tS27 fun A H3 hS => ?_
  repeat first | (with_reducible first | refine Wp.seq ?_ | refine Wp.reg ?_ | refine Wp.block ?_ | refine Wp.skip ?_ | refine Wp.ret ?_ | refine Wp.exit ?_ | refine Wp.label ?_ | refine Wp.condG ?_) | simp (disch := omega) only [↓RP, RQ, TS, TR, ↓reduceIte, Nat.reduceEqDiff, Nat.reduceLT, Nat.reduceLeDiff, Int.reduceLT, Int.reduceLE, Int.reduceEq, Int.reduceAdd, Int.reduceSub, Int.reduceNeg, Int.reduceToNat, Nat.reduceAdd, Nat.reduceMul, Nat.reduceSub, reduceCtorEq, RC, Int.cast_ofNat_Int, hn, g0, g1]
  refine hS.eStore 0 rfl [I N, w] rfl (by simp [hE.one]; rfl) tS27 (by simp) fun H4 hS => ?_
  simp only [List.nil_append, List.cons_append, List.append_nil, List.set_cons_zero, List.set_cons_succ, setMany_cons, setMany_nil, Nat.zero_add, Nat.mul_one, Nat.add_zero] at hS
  repeat first | (with_reducible first | refine Wp.seq ?_ | refine Wp.reg ?_ | refine Wp.block ?_ | refine Wp.skip ?_ | refine Wp.ret ?_ | refine Wp.exit ?_ | refine Wp.label ?_ | refine Wp.condG ?_) | simp (disch := omega) only [↓RP, RQ, TS, TR, ↓reduceIte, Nat.reduceEqDiff, Nat.reduceLT, Nat.reduceLeDiff, Int.reduceLT, Int.reduceLE, Int.reduceEq, Int.reduceAdd, Int.reduceSub, Int.reduceNeg, Int.reduceToNat, Nat.reduceAdd, Nat.reduceMul, Nat.reduceSub, reduceCtorEq, RC, Int.cast_ofNat_Int, hn, g0, g1, hS.ldA 0 rfl]
  refine callFW_of (cycle_ok N w es (hS.base hE) (by omega) (by omega) hval) ?_
  rintro r H5 ⟨c, wc, hM, hcN, rfl, hS5⟩
  have hS := hS.trans hS5
  simp only [List.nil_append, List.cons_append, List.append_nil, List.set_cons_zero, List.set_cons_succ, setMany_cons, setMany_nil, Nat.zero_add, Nat.mul_one, Nat.add_zero] at hS
  repeat first | (with_reducible first | refine Wp.seq ?_ | refine Wp.reg ?_ | refine Wp.block ?_ | refine Wp.skip ?_ | refine Wp.ret ?_ | refine Wp.exit ?_ | refine Wp.label ?_ | refine Wp.condG ?_) | simp (disch := omega) only [↓RP, RQ, TS, TR, ↓reduceIte, Nat.reduceEqDiff, Nat.reduceLT, Nat.reduceLeDiff, Int.reduceLT, Int.reduceLE, Int.reduceEq, Int.reduceAdd, Int.reduceSub, Int.reduceNeg, Int.reduceToNat, Nat.reduceAdd, Nat.reduceMul, Nat.reduceSub, reduceCtorEq, RC, Int.cast_ofNat_Int, hn, g0, g1]
  refine Wp.drwT hmix [(1, 4)] (by kernel_rfl) (by kernel_rfl) ?_
  repeat first | (with_reducible first | refine Wp.seq ?_ | refine Wp.reg ?_ | refine Wp.block ?_ | refine Wp.skip ?_ | refine Wp.ret ?_ | refine Wp.exit ?_ | refine Wp.label ?_ | refine Wp.condG ?_) | simp (disch := omega) only [↓RP, RQ, TS, TR, ↓reduceIte, Nat.reduceEqDiff, Nat.reduceLT, Nat.reduceLeDiff, Int.reduceLT, Int.reduceLE, Int.reduceEq, Int.reduceAdd, Int.reduceSub, Int.reduceNeg, Int.reduceToNat, Nat.reduceAdd, Nat.reduceMul, Nat.reduceSub, reduceCtorEq, RC, Int.cast_ofNat_Int, hn, g0, g1, hS.ldA 0 rfl, hS.ld 0 rfl]
  refine callFW_of (edges_ok N w es (hS.base hE) (by omega)) ?_
  rintro ev H7 ⟨hEv, hS7⟩
  have hS7 := hS.trans hS7
  simp only [List.nil_append, List.cons_append, List.append_nil, List.set_cons_zero, List.set_cons_succ, setMany_cons, setMany_nil, Nat.zero_add, Nat.mul_one, Nat.add_zero] at hS7
  have T := tables N w es hE (by omega) (by omega) hval
  repeat first | (with_reducible first | refine Wp.seq ?_ | refine Wp.reg ?_ | refine Wp.block ?_ | refine Wp.skip ?_ | refine Wp.ret ?_ | refine Wp.exit ?_ | refine Wp.label ?_ | refine Wp.condG ?_) | simp (disch := omega) only [↓RP, RQ, TS, TR, ↓reduceIte, Nat.reduceEqDiff, Nat.reduceLT, Nat.reduceLeDiff, Int.reduceLT, Int.reduceLE, Int.reduceEq, Int.reduceAdd, Int.reduceSub, Int.reduceNeg, Int.reduceToNat, Nat.reduceAdd, Nat.reduceMul, Nat.reduceSub, reduceCtorEq, RC, Int.cast_ofNat_Int, hn, g0, g1]
  refine callFW_of (refCycle_ok N ev es hEv (by omega) (by omega) hval (dT_le N w es hE (by omega) (by omega) hval) T) ?_
  rintro rv H8 ⟨b, hMb, hbN, hS8⟩
  have hS8 := hS7.trans hS8
  simp only [List.nil_append, List.cons_append, List.append_nil, List.set_cons_zero, List.set_cons_succ, setMany_cons, setMany_nil, Nat.zero_add, Nat.mul_one, Nat.add_zero] at hS8
  have hcb := cycles_same T hM hMb
  subst hcb
  have hwc : Sl1 H8 wc (fun n : Nat => I n) c := hS8.rd 1 rfl
  have hrv : Sl1 H8 rv (fun n : Nat => I n) c := hS8.rd 2 rfl
  have e1 : decide ((0 : Int) < (c.length : Int)) = decide (0 < c.length) := by congr 1; simp
  repeat first | (with_reducible first | refine Wp.seq ?_ | refine Wp.reg ?_ | refine Wp.block ?_ | refine Wp.skip ?_ | refine Wp.ret ?_ | refine Wp.exit ?_ | refine Wp.label ?_ | refine Wp.condG ?_) | simp (disch := omega) only [↓RP, RQ, TS, TR, ↓reduceIte, Nat.reduceEqDiff, Nat.reduceLT, Nat.reduceLeDiff, Int.reduceLT, Int.reduceLE, Int.reduceEq, Int.reduceAdd, Int.reduceSub, Int.reduceNeg, Int.reduceToNat, Nat.reduceAdd, Nat.reduceMul, Nat.reduceSub, reduceCtorEq, RC, Int.cast_ofNat_Int, hn, g0, g1, hS7.ld 0 rfl, hS8.ld 0 rfl, hrv.len, e1]
  refine binW_eqb (by simp (disch := omega) only [↓RP, RQ, TS, TR, ↓reduceIte, Nat.reduceEqDiff, Nat.reduceLT, Nat.reduceLeDiff, Int.reduceLT, Int.reduceLE, Int.reduceEq, Int.reduceAdd, Int.reduceSub, Int.reduceNeg, Int.reduceToNat, Nat.reduceAdd, Nat.reduceMul, Nat.reduceSub, reduceCtorEq, RC, Int.cast_ofNat_Int, hn]) (by simp (disch := omega) only [↓RP, RQ, TS, TR, ↓reduceIte, Nat.reduceEqDiff, Nat.reduceLT, Nat.reduceLeDiff, Int.reduceLT, Int.reduceLE, Int.reduceEq, Int.reduceAdd, Int.reduceSub, Int.reduceNeg, Int.reduceToNat, Nat.reduceAdd, Nat.reduceMul, Nat.reduceSub, reduceCtorEq, RC, Int.cast_ofNat_Int, hn, e1]) ?_
  rw [BEq.rfl]
  repeat first | (with_reducible first | refine Wp.seq ?_ | refine Wp.reg ?_ | refine Wp.block ?_ | refine Wp.skip ?_ | refine Wp.ret ?_ | refine Wp.exit ?_ | refine Wp.label ?_ | refine Wp.condG ?_) | simp (disch := omega) only [↓RP, RQ, TS, TR, ↓reduceIte, Nat.reduceEqDiff, Nat.reduceLT, Nat.reduceLeDiff, Int.reduceLT, Int.reduceLE, Int.reduceEq, Int.reduceAdd, Int.reduceSub, Int.reduceNeg, Int.reduceToNat, Nat.reduceAdd, Nat.reduceMul, Nat.reduceSub, reduceCtorEq, RC, Int.cast_ofNat_Int, hn, g0, g1]
  refine callFW_of (same_ok wc rv (c.map Nat.cast) (c.map Nat.cast) ?_ ?_ (by rw [List.length_map]; omega)) ?_
  · unfold Sl1
    rw [List.map_map]
    exact hwc
  · unfold Sl1
    rw [List.map_map]
    exact hrv
  rintro r H11 ⟨rfl, rfl⟩
  rw [decide_eq_true rfl]
  repeat first | (with_reducible first | refine Wp.seq ?_ | refine Wp.reg ?_ | refine Wp.block ?_ | refine Wp.skip ?_ | refine Wp.ret ?_ | refine Wp.exit ?_ | refine Wp.label ?_ | refine Wp.condG ?_) | simp (disch := omega) only [↓RP, RQ, TS, TR, ↓reduceIte, Nat.reduceEqDiff, Nat.reduceLT, Nat.reduceLeDiff, Int.reduceLT, Int.reduceLE, Int.reduceEq, Int.reduceAdd, Int.reduceSub, Int.reduceNeg, Int.reduceToNat, Nat.reduceAdd, Nat.reduceMul, Nat.reduceSub, reduceCtorEq, RC, Int.cast_ofNat_Int, hn, g0, g1]
end Go.Ds
/-
  The law on Order and Longest: its walk.
-/
namespace Go.Ds
open Go.Proofs Go.Plain
variable {H : Heap} {P : Program}

theorem rdW_someG (ops : Array Oper) (d op ty pos af) (j : Nat) (b : Bool) (l : List Value) (H' : Heap) (v : Value) :
    rdW P ops (some ⟨d, op, ty, pos, af, some (j, b)⟩) (some (l, H', v)) H = guardW (dstAt ops j) l b (opW P ⟨d, op, ty, pos, af, some (j, b)⟩ l H fun v' _ => v' = v) True := by
  rw [← wanted_guard (d := d) (op := op) (ty := ty) (pos := pos) (af := af)]
  simp only [rdW]
  by_cases h : Region.wanted ⟨d, op, ty, pos, af, some (j, b)⟩ (yieldedD ops l) = true
  · simp [h]
  · simp [h]

theorem orders_ok (a : Nat) (ha : a < 256) (v : Value) (ls : List (Nat × Nat)) (hv : Lk H v ls) (hb : ∀ x ∈ ls, x.1 < 256 ∧ x.2 < 256) : Fn Try.prog 5 [U a, v] H fun r H' => r = .bool true := by
  refine Fn.of_wp (fn := Try.f5) rfl rfl (by kernel_rfl) fun l hl => ?_
  have hn : l.length = 76 := by rw [hl]; rfl
  have g0 : get l 0 = U a := by rw [hl]; rfl
  have g1 : get l 1 = v := by rw [hl]; rfl
  clear hl
  have hv0 : Sl2 H v _ _ ls := hv
  repeat first | (with_reducible first | refine Wp.seq ?_ | refine Wp.reg ?_ | refine Wp.block ?_ | refine Wp.skip ?_ | refine Wp.ret ?_ | refine Wp.exit ?_ | refine Wp.label ?_ | refine Wp.condG ?_) | simp (disch := omega) only [↓RP, RQ, TS, TR, ↓reduceIte, Nat.reduceEqDiff, Nat.reduceLT, Nat.reduceLeDiff, Int.reduceLT, Int.reduceLE, Int.reduceEq, Int.reduceAdd, Int.reduceSub, Int.reduceNeg, Int.reduceToNat, Nat.reduceAdd, Nat.reduceMul, Nat.reduceSub, reduceCtorEq, RC, Int.cast_ofNat_Int, hn, g0, g1]
  refine callFW_of (known_ok H) ?_
  rintro r H1 ⟨rfl, rfl⟩
  repeat first | (with_reducible first | refine Wp.seq ?_ | refine Wp.reg ?_ | refine Wp.block ?_ | refine Wp.skip ?_ | refine Wp.ret ?_ | refine Wp.exit ?_ | refine Wp.label ?_ | refine Wp.condG ?_) | simp (disch := omega) only [↓RP, RQ, TS, TR, ↓reduceIte, Nat.reduceEqDiff, Nat.reduceLT, Nat.reduceLeDiff, Int.reduceLT, Int.reduceLE, Int.reduceEq, Int.reduceAdd, Int.reduceSub, Int.reduceNeg, Int.reduceToNat, Nat.reduceAdd, Nat.reduceMul, Nat.reduceSub, reduceCtorEq, RC, Int.cast_ofNat_Int, hn, g0, g1, hv0.len]
  refine condW_split (fun h => ?_) (fun h => ?_)
  · repeat first | (with_reducible first | refine Wp.seq ?_ | refine Wp.reg ?_ | refine Wp.block ?_ | refine Wp.skip ?_ | refine Wp.ret ?_ | refine Wp.exit ?_ | refine Wp.label ?_ | refine Wp.condG ?_) | simp (disch := omega) only [↓RP, RQ, TS, TR, ↓reduceIte, Nat.reduceEqDiff, Nat.reduceLT, Nat.reduceLeDiff, Int.reduceLT, Int.reduceLE, Int.reduceEq, Int.reduceAdd, Int.reduceSub, Int.reduceNeg, Int.reduceToNat, Nat.reduceAdd, Nat.reduceMul, Nat.reduceSub, reduceCtorEq, RC, Int.cast_ofNat_Int, hn, g0, g1]
    refine callFW_of (known_ok _) ?_
    rintro r H1 ⟨rfl, rfl⟩
    repeat first | (with_reducible first | refine Wp.seq ?_ | refine Wp.reg ?_ | refine Wp.block ?_ | refine Wp.skip ?_ | refine Wp.ret ?_ | refine Wp.exit ?_ | refine Wp.label ?_ | refine Wp.condG ?_) | simp (disch := omega) only [↓RP, RQ, TS, TR, ↓reduceIte, Nat.reduceEqDiff, Nat.reduceLT, Nat.reduceLeDiff, Int.reduceLT, Int.reduceLE, Int.reduceEq, Int.reduceAdd, Int.reduceSub, Int.reduceNeg, Int.reduceToNat, Nat.reduceAdd, Nat.reduceMul, Nat.reduceSub, reduceCtorEq, RC, Int.cast_ofNat_Int, hn, g0, g1]
  repeat first | (with_reducible first | refine Wp.seq ?_ | refine Wp.reg ?_ | refine Wp.block ?_ | refine Wp.skip ?_ | refine Wp.ret ?_ | refine Wp.exit ?_ | refine Wp.label ?_ | refine Wp.condG ?_) | simp (disch := omega) only [↓RP, RQ, TS, TR, ↓reduceIte, Nat.reduceEqDiff, Nat.reduceLT, Nat.reduceLeDiff, Int.reduceLT, Int.reduceLE, Int.reduceEq, Int.reduceAdd, Int.reduceSub, Int.reduceNeg, Int.reduceToNat, Nat.reduceAdd, Nat.reduceMul, Nat.reduceSub, reduceCtorEq, RC, Int.cast_ofNat_Int, hn, g0, g1]
  refine callFW_of (make_ok a ha v ls hv (by omega) hb) ?_
  rintro r H2 ⟨w, rfl, hE, _⟩
  have hN := mkN_pos a
  have hval := mkE_val a ls
  have hl := mkE_length a ls
  generalize mkE a ls = es at hE hval hl
  generalize mkN a = N at hE hval hN
  have T := tables N w es hE (by omega) (by omega) hval
  have hdT := dT_le N w es hE (by omega) (by omega) hval
  repeat first | (with_reducible first | refine Wp.seq ?_ | refine Wp.reg ?_ | refine Wp.block ?_ | refine Wp.skip ?_ | refine Wp.ret ?_ | refine Wp.exit ?_ | refine Wp.label ?_ | refine Wp.condG ?_) | simp (disch := omega) only [↓RP, RQ, TS, TR, ↓reduceIte, Nat.reduceEqDiff, Nat.reduceLT, Nat.reduceLeDiff, Int.reduceLT, Int.reduceLE, Int.reduceEq, Int.reduceAdd, Int.reduceSub, Int.reduceNeg, Int.reduceToNat, Nat.reduceAdd, Nat.reduceMul, Nat.reduceSub, reduceCtorEq, RC, Int.cast_ofNat_Int, hn, g0, g1]
  refine (St.refl _ H2).eNew 2 [I 0, .slice none 0 0] rfl rfl rfl tS27 fun A H3 hS => ?_
  repeat first | (with_reducible first | refine Wp.seq ?_ | refine Wp.reg ?_ | refine Wp.block ?_ | refine Wp.skip ?_ | refine Wp.ret ?_ | refine Wp.exit ?_ | refine Wp.label ?_ | refine Wp.condG ?_) | simp (disch := omega) only [↓RP, RQ, TS, TR, ↓reduceIte, Nat.reduceEqDiff, Nat.reduceLT, Nat.reduceLeDiff, Int.reduceLT, Int.reduceLE, Int.reduceEq, Int.reduceAdd, Int.reduceSub, Int.reduceNeg, Int.reduceToNat, Nat.reduceAdd, Nat.reduceMul, Nat.reduceSub, reduceCtorEq, RC, Int.cast_ofNat_Int, hn, g0, g1]
  refine hS.eStore 0 rfl [I N, w] rfl (by simp [hE.one]; rfl) tS27 (by simp) fun H4 hS => ?_
  simp only [List.nil_append, List.cons_append, List.append_nil, List.set_cons_zero, List.set_cons_succ, setMany_cons, setMany_nil, Nat.zero_add, Nat.mul_one, Nat.add_zero] at hS
  repeat first | (with_reducible first | refine Wp.seq ?_ | refine Wp.reg ?_ | refine Wp.block ?_ | refine Wp.skip ?_ | refine Wp.ret ?_ | refine Wp.exit ?_ | refine Wp.label ?_ | refine Wp.condG ?_) | simp (disch := omega) only [↓RP, RQ, TS, TR, ↓reduceIte, Nat.reduceEqDiff, Nat.reduceLT, Nat.reduceLeDiff, Int.reduceLT, Int.reduceLE, Int.reduceEq, Int.reduceAdd, Int.reduceSub, Int.reduceNeg, Int.reduceToNat, Nat.reduceAdd, Nat.reduceMul, Nat.reduceSub, reduceCtorEq, RC, Int.cast_ofNat_Int, hn, g0, g1, hS.ldA 0 rfl]
  refine callFW_of (order_ok N w es (hS.base hE) (by omega) (by omega) hval) ?_
  by_cases hcy : ∃ n a, W es (n + 1) a a
  · have hfull : ∀ out, Top es N out → out.length ≠ N := by
      intro out hT ho
      obtain ⟨n, x, hw⟩ := hcy
      have hw2 := hw
      obtain ⟨c, _, he⟩ := hw2
      exact hT.around n x (nodup_all hT.nodup hT.lt ho x (hval _ he).2) hw
    rintro r H5 ⟨o1, w1, hT1, ⟨ho1, _, _⟩ | ⟨_, _, rfl, hS5⟩⟩
    · exact absurd ho1 (hfull _ hT1)
    have hS := hS.trans hS5
    simp only [List.nil_append, List.cons_append, List.append_nil, List.set_cons_zero, List.set_cons_succ, setMany_cons, setMany_nil, Nat.zero_add, Nat.mul_one, Nat.add_zero] at hS
    repeat first | (with_reducible first | refine Wp.seq ?_ | refine Wp.reg ?_ | refine Wp.block ?_ | refine Wp.skip ?_ | refine Wp.ret ?_ | refine Wp.exit ?_ | refine Wp.label ?_ | refine Wp.condG ?_) | simp (disch := omega) only [↓RP, RQ, TS, TR, ↓reduceIte, Nat.reduceEqDiff, Nat.reduceLT, Nat.reduceLeDiff, Int.reduceLT, Int.reduceLE, Int.reduceEq, Int.reduceAdd, Int.reduceSub, Int.reduceNeg, Int.reduceToNat, Nat.reduceAdd, Nat.reduceMul, Nat.reduceSub, reduceCtorEq, RC, Int.cast_ofNat_Int, hn, g0, g1, hS.ldA 0 rfl]
    refine callFW_of (longest_ok N w es (hS.base hE) (by omega) (by omega) hval) ?_
    rintro r H6 ⟨o2, hT2, ⟨ho2, _⟩ | ⟨_, _, rfl, hS6⟩⟩
    · exact absurd ho2 (hfull _ hT2)
    have hS := hS.trans hS6
    simp only [List.nil_append, List.cons_append, List.append_nil, List.set_cons_zero, List.set_cons_succ, setMany_cons, setMany_nil, Nat.zero_add, Nat.mul_one, Nat.add_zero] at hS
    repeat first | (with_reducible first | refine Wp.seq ?_ | refine Wp.reg ?_ | refine Wp.block ?_ | refine Wp.skip ?_ | refine Wp.ret ?_ | refine Wp.exit ?_ | refine Wp.label ?_ | refine Wp.condG ?_) | simp (disch := omega) only [↓RP, RQ, TS, TR, ↓reduceIte, Nat.reduceEqDiff, Nat.reduceLT, Nat.reduceLeDiff, Int.reduceLT, Int.reduceLE, Int.reduceEq, Int.reduceAdd, Int.reduceSub, Int.reduceNeg, Int.reduceToNat, Nat.reduceAdd, Nat.reduceMul, Nat.reduceSub, reduceCtorEq, RC, Int.cast_ofNat_Int, hn, g0, g1]
    refine Wp.drwT hmix [(1, 4)] (by kernel_rfl) (by kernel_rfl) ?_
    repeat first | (with_reducible first | refine Wp.seq ?_ | refine Wp.reg ?_ | refine Wp.block ?_ | refine Wp.skip ?_ | refine Wp.ret ?_ | refine Wp.exit ?_ | refine Wp.label ?_ | refine Wp.condG ?_) | simp (disch := omega) only [↓RP, RQ, TS, TR, ↓reduceIte, Nat.reduceEqDiff, Nat.reduceLT, Nat.reduceLeDiff, Int.reduceLT, Int.reduceLE, Int.reduceEq, Int.reduceAdd, Int.reduceSub, Int.reduceNeg, Int.reduceToNat, Nat.reduceAdd, Nat.reduceMul, Nat.reduceSub, reduceCtorEq, RC, Int.cast_ofNat_Int, hn, g0, g1, hS.ldA 0 rfl, hS.ld 0 rfl]
    refine callFW_of (edges_ok N w es (hS.base hE) (by omega)) ?_
    rintro ev H7 ⟨hEv, hS7⟩
    have hS7 := hS.trans hS7
    simp only [List.nil_append, List.cons_append, List.append_nil, List.set_cons_zero, List.set_cons_succ, setMany_cons, setMany_nil, Nat.zero_add, Nat.mul_one, Nat.add_zero] at hS7
    repeat first | (with_reducible first | refine Wp.seq ?_ | refine Wp.reg ?_ | refine Wp.block ?_ | refine Wp.skip ?_ | refine Wp.ret ?_ | refine Wp.exit ?_ | refine Wp.label ?_ | refine Wp.condG ?_) | simp (disch := omega) only [↓RP, RQ, TS, TR, ↓reduceIte, Nat.reduceEqDiff, Nat.reduceLT, Nat.reduceLeDiff, Int.reduceLT, Int.reduceLE, Int.reduceEq, Int.reduceAdd, Int.reduceSub, Int.reduceNeg, Int.reduceToNat, Nat.reduceAdd, Nat.reduceMul, Nat.reduceSub, reduceCtorEq, RC, Int.cast_ofNat_Int, hn, g0, g1]
    refine callFW_of (refCycle_ok N ev es hEv (by omega) (by omega) hval hdT T) ?_
    rintro rv H8 ⟨b, hMb, hbN, hS8⟩
    have hS8 := hS7.trans hS8
    simp only [List.nil_append, List.cons_append, List.append_nil, List.set_cons_zero, List.set_cons_succ, setMany_cons, setMany_nil, Nat.zero_add, Nat.mul_one, Nat.add_zero] at hS8
    have hbl := (cycle_iff T hMb).2 hcy
    have hrv : Sl1 H8 rv (fun n : Nat => I n) b := hS8.rd 1 rfl
    have e1 : decide ((0 : Int) < (b.length : Int)) = true := decide_eq_true (by omega)
    have hnil : Sl1 H8 (.slice none 0 0) (fun n : Nat => I n) [] := (hS8.nil 0).front.rd 0 rfl
    repeat first | (with_reducible first | refine Wp.seq ?_ | refine Wp.reg ?_ | refine Wp.block ?_ | refine Wp.skip ?_ | refine Wp.ret ?_ | refine Wp.exit ?_ | refine Wp.label ?_ | refine Wp.condG ?_) | simp (disch := omega) only [↓RP, RQ, TS, TR, ↓reduceIte, Nat.reduceEqDiff, Nat.reduceLT, Nat.reduceLeDiff, Int.reduceLT, Int.reduceLE, Int.reduceEq, Int.reduceAdd, Int.reduceSub, Int.reduceNeg, Int.reduceToNat, Nat.reduceAdd, Nat.reduceMul, Nat.reduceSub, reduceCtorEq, RC, Int.cast_ofNat_Int, hn, g0, g1, hS7.ld 0 rfl, hS8.ld 0 rfl, hrv.len, e1, hnil.len, wrap_fit]
  · have hno : ∀ n a, ¬ W es (n + 1) a a := fun n a hw => hcy ⟨n, a, hw⟩
    rintro r H5 ⟨o1, w1, hT1, ⟨ho1, rfl, hS5⟩ | ⟨hlt, hst, _, _⟩⟩
    case inr =>
      obtain ⟨i, hi, hr, _⟩ := Top.more hval hno hlt
      exact absurd hr (hst i hi)
    have hS := hS.trans hS5
    simp only [List.nil_append, List.cons_append, List.append_nil, List.set_cons_zero, List.set_cons_succ, setMany_cons, setMany_nil, Nat.zero_add, Nat.mul_one, Nat.add_zero] at hS
    repeat first | (with_reducible first | refine Wp.seq ?_ | refine Wp.reg ?_ | refine Wp.block ?_ | refine Wp.skip ?_ | refine Wp.ret ?_ | refine Wp.exit ?_ | refine Wp.label ?_ | refine Wp.condG ?_) | simp (disch := omega) only [↓RP, RQ, TS, TR, ↓reduceIte, Nat.reduceEqDiff, Nat.reduceLT, Nat.reduceLeDiff, Int.reduceLT, Int.reduceLE, Int.reduceEq, Int.reduceAdd, Int.reduceSub, Int.reduceNeg, Int.reduceToNat, Nat.reduceAdd, Nat.reduceMul, Nat.reduceSub, reduceCtorEq, RC, Int.cast_ofNat_Int, hn, g0, g1, hS.ldA 0 rfl]
    refine callFW_of (longest_ok N w es (hS.base hE) (by omega) (by omega) hval) ?_
    rintro r H6 ⟨o2, hT2, ⟨ho2, w2, d, hL, rfl, hS6⟩ | ⟨hlt, hst, _, _⟩⟩
    case inr =>
      obtain ⟨i, hi, hr, _⟩ := Top.more hval hno hlt
      exact absurd hr (hst i hi)
    have hS := hS.trans hS6
    simp only [List.nil_append, List.cons_append, List.append_nil, List.set_cons_zero, List.set_cons_succ, setMany_cons, setMany_nil, Nat.zero_add, Nat.mul_one, Nat.add_zero] at hS
    repeat first | (with_reducible first | refine Wp.seq ?_ | refine Wp.reg ?_ | refine Wp.block ?_ | refine Wp.skip ?_ | refine Wp.ret ?_ | refine Wp.exit ?_ | refine Wp.label ?_ | refine Wp.condG ?_) | simp (disch := omega) only [↓RP, RQ, TS, TR, ↓reduceIte, Nat.reduceEqDiff, Nat.reduceLT, Nat.reduceLeDiff, Int.reduceLT, Int.reduceLE, Int.reduceEq, Int.reduceAdd, Int.reduceSub, Int.reduceNeg, Int.reduceToNat, Nat.reduceAdd, Nat.reduceMul, Nat.reduceSub, reduceCtorEq, RC, Int.cast_ofNat_Int, hn, g0, g1]
    refine Wp.drwT hmix [(1, 4)] (by kernel_rfl) (by kernel_rfl) ?_
    repeat first | (with_reducible first | refine Wp.seq ?_ | refine Wp.reg ?_ | refine Wp.block ?_ | refine Wp.skip ?_ | refine Wp.ret ?_ | refine Wp.exit ?_ | refine Wp.label ?_ | refine Wp.condG ?_) | simp (disch := omega) only [↓RP, RQ, TS, TR, ↓reduceIte, Nat.reduceEqDiff, Nat.reduceLT, Nat.reduceLeDiff, Int.reduceLT, Int.reduceLE, Int.reduceEq, Int.reduceAdd, Int.reduceSub, Int.reduceNeg, Int.reduceToNat, Nat.reduceAdd, Nat.reduceMul, Nat.reduceSub, reduceCtorEq, RC, Int.cast_ofNat_Int, hn, g0, g1, hS.ldA 0 rfl, hS.ld 0 rfl]
    refine callFW_of (edges_ok N w es (hS.base hE) (by omega)) ?_
    rintro ev H7 ⟨hEv, hS7⟩
    have hS7 := hS.trans hS7
    simp only [List.nil_append, List.cons_append, List.append_nil, List.set_cons_zero, List.set_cons_succ, setMany_cons, setMany_nil, Nat.zero_add, Nat.mul_one, Nat.add_zero] at hS7
    repeat first | (with_reducible first | refine Wp.seq ?_ | refine Wp.reg ?_ | refine Wp.block ?_ | refine Wp.skip ?_ | refine Wp.ret ?_ | refine Wp.exit ?_ | refine Wp.label ?_ | refine Wp.condG ?_) | simp (disch := omega) only [↓RP, RQ, TS, TR, ↓reduceIte, Nat.reduceEqDiff, Nat.reduceLT, Nat.reduceLeDiff, Int.reduceLT, Int.reduceLE, Int.reduceEq, Int.reduceAdd, Int.reduceSub, Int.reduceNeg, Int.reduceToNat, Nat.reduceAdd, Nat.reduceMul, Nat.reduceSub, reduceCtorEq, RC, Int.cast_ofNat_Int, hn, g0, g1]
    refine callFW_of (refCycle_ok N ev es hEv (by omega) (by omega) hval hdT T) ?_
    rintro rv H8 ⟨b, hMb, hbN, hS8⟩
    have hS8 := hS7.trans hS8
    simp only [List.nil_append, List.cons_append, List.append_nil, List.set_cons_zero, List.set_cons_succ, setMany_cons, setMany_nil, Nat.zero_add, Nat.mul_one, Nat.add_zero] at hS8
    have hbl : ¬ 0 < b.length := fun hh => hcy ((cycle_iff T hMb).1 hh)
    have hrv : Sl1 H8 rv (fun n : Nat => I n) b := hS8.rd 3 rfl
    have e1 : decide ((0 : Int) < (b.length : Int)) = false := decide_eq_false (by omega)
    repeat first | (with_reducible first | refine Wp.seq ?_ | refine Wp.reg ?_ | refine Wp.block ?_ | refine Wp.skip ?_ | refine Wp.ret ?_ | refine Wp.exit ?_ | refine Wp.label ?_ | refine Wp.condG ?_) | simp (disch := omega) only [↓RP, RQ, TS, TR, ↓reduceIte, Nat.reduceEqDiff, Nat.reduceLT, Nat.reduceLeDiff, Int.reduceLT, Int.reduceLE, Int.reduceEq, Int.reduceAdd, Int.reduceSub, Int.reduceNeg, Int.reduceToNat, Nat.reduceAdd, Nat.reduceMul, Nat.reduceSub, reduceCtorEq, RC, Int.cast_ofNat_Int, hn, g0, g1, hS7.ld 0 rfl, hS8.ld 0 rfl, hrv.len, e1]
    refine Wp.drwT hmix [(9, 12), (18, 21)] (by kernel_rfl) (by kernel_rfl) ?_
    repeat first | (with_reducible first | refine Wp.seq ?_ | refine Wp.reg ?_ | refine Wp.block ?_ | refine Wp.skip ?_ | refine Wp.ret ?_ | refine Wp.exit ?_ | refine Wp.label ?_ | refine Wp.condG ?_) | simp (disch := omega) only [↓RP, RQ, TS, TR, ↓reduceIte, Nat.reduceEqDiff, Nat.reduceLT, Nat.reduceLeDiff, Int.reduceLT, Int.reduceLE, Int.reduceEq, Int.reduceAdd, Int.reduceSub, Int.reduceNeg, Int.reduceToNat, Nat.reduceAdd, Nat.reduceMul, Nat.reduceSub, reduceCtorEq, RC, Int.cast_ofNat_Int, hn, g0, g1, hS8.ldA 0 rfl, hS8.ld 0 rfl]
    refine callFW_of (edges_ok N w es (hS8.base hE) (by omega)) ?_
    rintro ev2 H9 ⟨hEv2, hS9⟩
    have hS9 := hS8.trans hS9
    simp only [List.nil_append, List.cons_append, List.append_nil, List.set_cons_zero, List.set_cons_succ, setMany_cons, setMany_nil, Nat.zero_add, Nat.mul_one, Nat.add_zero] at hS9
    repeat first | (with_reducible first | refine Wp.seq ?_ | refine Wp.reg ?_ | refine Wp.block ?_ | refine Wp.skip ?_ | refine Wp.ret ?_ | refine Wp.exit ?_ | refine Wp.label ?_ | refine Wp.condG ?_) | simp (disch := omega) only [↓RP, RQ, TS, TR, ↓reduceIte, Nat.reduceEqDiff, Nat.reduceLT, Nat.reduceLeDiff, Int.reduceLT, Int.reduceLE, Int.reduceEq, Int.reduceAdd, Int.reduceSub, Int.reduceNeg, Int.reduceToNat, Nat.reduceAdd, Nat.reduceMul, Nat.reduceSub, reduceCtorEq, RC, Int.cast_ofNat_Int, hn, g0, g1]
    refine callFW_of (refOrder_ok N ev2 es hEv2 (by omega) (by omega) hval hno) ?_
    rintro r3 H10 ⟨o3, hT3, ho3, hS10⟩
    have hS10 := hS9.trans hS10
    simp only [List.nil_append, List.cons_append, List.append_nil, List.set_cons_zero, List.set_cons_succ, setMany_cons, setMany_nil, Nat.zero_add, Nat.mul_one, Nat.add_zero] at hS10
    obtain rfl := Top.uniq hT1 hT3 (by omega)
    have h1 : Sl1 H10 w1 (fun n : Nat => I n) o1 := hS10.rd 1 rfl
    have h2 : Sl1 H10 r3 (fun n : Nat => I n) o1 := hS10.rd 4 rfl
    repeat first | (with_reducible first | refine Wp.seq ?_ | refine Wp.reg ?_ | refine Wp.block ?_ | refine Wp.skip ?_ | refine Wp.ret ?_ | refine Wp.exit ?_ | refine Wp.label ?_ | refine Wp.condG ?_) | simp (disch := omega) only [↓RP, RQ, TS, TR, ↓reduceIte, Nat.reduceEqDiff, Nat.reduceLT, Nat.reduceLeDiff, Int.reduceLT, Int.reduceLE, Int.reduceEq, Int.reduceAdd, Int.reduceSub, Int.reduceNeg, Int.reduceToNat, Nat.reduceAdd, Nat.reduceMul, Nat.reduceSub, reduceCtorEq, RC, Int.cast_ofNat_Int, hn, g0, g1]
    refine callFW_of (same_ok w1 r3 (o1.map Nat.cast) (o1.map Nat.cast) ?_ ?_ (by rw [List.length_map]; omega)) ?_
    · unfold Sl1
      rw [List.map_map]
      exact h1
    · unfold Sl1
      rw [List.map_map]
      exact h2
    rintro r H11 ⟨rfl, rfl⟩
    rw [decide_eq_true rfl]
    repeat first | (with_reducible first | refine Wp.seq ?_ | refine Wp.reg ?_ | refine Wp.block ?_ | refine Wp.skip ?_ | refine Wp.ret ?_ | refine Wp.exit ?_ | refine Wp.label ?_ | refine Wp.condG ?_) | simp (disch := omega) only [↓RP, RQ, TS, TR, ↓reduceIte, Nat.reduceEqDiff, Nat.reduceLT, Nat.reduceLeDiff, Int.reduceLT, Int.reduceLE, Int.reduceEq, Int.reduceAdd, Int.reduceSub, Int.reduceNeg, Int.reduceToNat, Nat.reduceAdd, Nat.reduceMul, Nat.reduceSub, reduceCtorEq, RC, Int.cast_ofNat_Int, hn, g0, g1, hS10.ldA 0 rfl, hS10.ld 0 rfl]
    refine callFW_of (edges_ok N w es (hS10.base hE) (by omega)) ?_
    rintro ev3 H12 ⟨hEv3, hS12⟩
    have hS12 := hS10.trans hS12
    simp only [List.nil_append, List.cons_append, List.append_nil, List.set_cons_zero, List.set_cons_succ, setMany_cons, setMany_nil, Nat.zero_add, Nat.mul_one, Nat.add_zero] at hS12
    repeat first | (with_reducible first | refine Wp.seq ?_ | refine Wp.reg ?_ | refine Wp.block ?_ | refine Wp.skip ?_ | refine Wp.ret ?_ | refine Wp.exit ?_ | refine Wp.label ?_ | refine Wp.condG ?_) | simp (disch := omega) only [↓RP, RQ, TS, TR, ↓reduceIte, Nat.reduceEqDiff, Nat.reduceLT, Nat.reduceLeDiff, Int.reduceLT, Int.reduceLE, Int.reduceEq, Int.reduceAdd, Int.reduceSub, Int.reduceNeg, Int.reduceToNat, Nat.reduceAdd, Nat.reduceMul, Nat.reduceSub, reduceCtorEq, RC, Int.cast_ofNat_Int, hn, g0, g1]
    refine callFW_of (refLongest_ok N ev3 es hEv3 (by omega) (by omega) hval o1 hT1 ho1) ?_
    rintro r4 H13 ⟨d4, hL4, hS13⟩
    have hS13 := hS12.trans hS13
    simp only [List.nil_append, List.cons_append, List.append_nil, List.set_cons_zero, List.set_cons_succ, setMany_cons, setMany_nil, Nat.zero_add, Nat.mul_one, Nat.add_zero] at hS13
    obtain rfl := hL.eq hL4 hval
    have hdl := hL.len
    repeat first | (with_reducible first | refine Wp.seq ?_ | refine Wp.reg ?_ | refine Wp.block ?_ | refine Wp.skip ?_ | refine Wp.ret ?_ | refine Wp.exit ?_ | refine Wp.label ?_ | refine Wp.condG ?_) | simp (disch := omega) only [↓RP, RQ, TS, TR, ↓reduceIte, Nat.reduceEqDiff, Nat.reduceLT, Nat.reduceLeDiff, Int.reduceLT, Int.reduceLE, Int.reduceEq, Int.reduceAdd, Int.reduceSub, Int.reduceNeg, Int.reduceToNat, Nat.reduceAdd, Nat.reduceMul, Nat.reduceSub, reduceCtorEq, RC, Int.cast_ofNat_Int, hn, g0, g1]
    refine callFW_of (same_ok w2 r4 d d (hS13.rd 2 rfl) (hS13.rd 5 rfl) (by omega)) ?_
    rintro r H14 ⟨rfl, rfl⟩
    rw [decide_eq_true rfl]
    repeat first | (with_reducible first | refine Wp.seq ?_ | refine Wp.reg ?_ | refine Wp.block ?_ | refine Wp.skip ?_ | refine Wp.ret ?_ | refine Wp.exit ?_ | refine Wp.label ?_ | refine Wp.condG ?_) | simp (disch := omega) only [↓RP, RQ, TS, TR, ↓reduceIte, Nat.reduceEqDiff, Nat.reduceLT, Nat.reduceLeDiff, Int.reduceLT, Int.reduceLE, Int.reduceEq, Int.reduceAdd, Int.reduceSub, Int.reduceNeg, Int.reduceToNat, Nat.reduceAdd, Nat.reduceMul, Nat.reduceSub, reduceCtorEq, RC, Int.cast_ofNat_Int, hn, g0, g1, rdW_someG, hS9.ld 0 rfl, hS12.ld 0 rfl]
end Go.Ds
/-
  The law on lines: plain, and its walk.
-/
namespace Go.Ds
open Go.Proofs Go.Plain
variable {H : Heap} {P : Program}

/-- A line of nodes. -/
def ln (k : Nat) : List (Nat × Nat) := (List.range (k - 1)).map fun i => (i, i + 1)
theorem ln_length (k : Nat) : (ln k).length = k - 1 := by simp [ln]
theorem ln_mem {k a b : Nat} : (a, b) ∈ ln k ↔ b = a + 1 ∧ b < k := by
  unfold ln
  rw [List.mem_map]
  constructor
  · rintro ⟨i, hi, h⟩
    rw [List.mem_range] at hi
    injection h with h1 h2
    omega
  · rintro ⟨h1, h2⟩
    exact ⟨a, List.mem_range.2 (by omega), by rw [h1]⟩
theorem ln_succ (k : Nat) (hk : 0 < k) : ln (k + 1) = ln k ++ [(k - 1, k)] := by
  unfold ln
  rw [show k + 1 - 1 = (k - 1) + 1 from by omega, List.range_succ, List.map_append]
  simp; omega
theorem W_ln {k : Nat} : ∀ {n a b : Nat}, W (ln k) n a b ↔ b = a + n ∧ (0 < n → b < k)
  | 0, a, b => by
    show a = b ↔ _
    omega
  | n + 1, a, b => by
    show (∃ c, W (ln k) n a c ∧ (c, b) ∈ ln k) ↔ _
    constructor
    · rintro ⟨c, h1, h2⟩
      have h1 := W_ln.1 h1
      have h2 := ln_mem.1 h2
      omega
    · rintro ⟨h1, h2⟩
      refine ⟨a + n, W_ln.2 ⟨rfl, fun _ => by omega⟩, ln_mem.2 ⟨by omega, by omega⟩⟩
theorem count_gt (i : Nat) : ∀ K, ((List.range K).filter fun x => decide (i < x)).length = K - (i + 1)
  | 0 => by simp
  | K + 1 => by
    rw [List.range_succ, List.filter_append, List.length_append, count_gt i K]
    by_cases h : i < K
    · simp [h]; omega
    · simp [h]; omega
theorem hit_ln {k : Nat} {ds : Nat → List Int} (hval : ∀ e ∈ ln k, e.1 < k ∧ e.2 < k) (hds : ∀ i, i < k → IsD (ln k) k i (ds i)) (i x : Nat) (hx : x < k) : hit (ln k) ds i x (ln k).length = decide (i < x) := by
  rw [Bool.eq_iff_iff, hit_iff hval hds i x hx, decide_eq_true_eq]
  constructor
  · rintro ⟨n, hw⟩
    have := W_ln.1 hw
    omega
  · intro h
    exact ⟨x - i - 1, W_ln.2 ⟨by omega, fun _ => hx⟩⟩
theorem clr_ln {k : Nat} {ds : Nat → List Int} (hval : ∀ e ∈ ln k, e.1 < k ∧ e.2 < k) (hds : ∀ i, i < k → IsD (ln k) k i (ds i)) (i : Nat) : (clr (ln k) ds i k).length = k - (i + 1) := by
  unfold clr
  rw [List.length_map, ← count_gt i k]
  congr 1
  apply List.filter_congr
  intro x hx
  exact hit_ln hval hds i x (List.mem_range.1 hx)
theorem clo_ln {k : Nat} {ds : Nat → List Int} (hval : ∀ e ∈ ln k, e.1 < k ∧ e.2 < k) (hds : ∀ i, i < k → IsD (ln k) k i (ds i)) : ∀ i, i ≤ k → 2 * (clo k (ln k) ds i).length + i * i + i = 2 * (k * i)
  | 0, _ => by simp [clo]
  | i + 1, h => by
    have h1 := clo_ln hval hds i (by omega)
    rw [clo_succ, List.length_append, clr_ln hval hds i, Nat.mul_succ k i, Nat.mul_succ (i + 1) i, Nat.succ_mul i i]
    omega

theorem limits_ok (a : Nat) (ha : a < 256) : Fn Try.prog 7 [U a] H fun r H' => r = .bool true := by
  refine Fn.of_wp (fn := Try.f7) rfl rfl (by kernel_rfl) fun l hl => ?_
  have hn : l.length = 92 := by rw [hl]; rfl
  have g0 : get l 0 = U a := by rw [hl]; rfl
  clear hl
  repeat first | (with_reducible first | refine Wp.seq ?_ | refine Wp.reg ?_ | refine Wp.block ?_ | refine Wp.skip ?_ | refine Wp.ret ?_ | refine Wp.exit ?_ | refine Wp.label ?_ | refine Wp.condG ?_) | simp (disch := omega) only [↓RP, RQ, TS, TR, ↓reduceIte, Nat.reduceEqDiff, Nat.reduceLT, Nat.reduceLeDiff, Int.reduceLT, Int.reduceLE, Int.reduceEq, Int.reduceAdd, Int.reduceSub, Int.reduceNeg, Int.reduceToNat, Nat.reduceAdd, Nat.reduceMul, Nat.reduceSub, reduceCtorEq, RC, Int.cast_ofNat_Int, hn, g0]
  refine callFW_of (known_ok H) ?_
  rintro r H1 ⟨rfl, rfl⟩
  obtain ⟨k, hk, hk1, hk2⟩ : ∃ k : Nat, (30 + ((a % 32 : Nat) : Int)) = (k : Int) ∧ 30 ≤ k ∧ k ≤ 61 := ⟨30 + a % 32, by omega, by omega, by omega⟩
  repeat first | (with_reducible first | refine Wp.seq ?_ | refine Wp.reg ?_ | refine Wp.block ?_ | refine Wp.skip ?_ | refine Wp.ret ?_ | refine Wp.exit ?_ | refine Wp.label ?_ | refine Wp.condG ?_) | simp (disch := omega) only [↓RP, RQ, TS, TR, ↓reduceIte, Nat.reduceEqDiff, Nat.reduceLT, Nat.reduceLeDiff, Int.reduceLT, Int.reduceLE, Int.reduceEq, Int.reduceAdd, Int.reduceSub, Int.reduceNeg, Int.reduceToNat, Nat.reduceAdd, Nat.reduceMul, Nat.reduceSub, reduceCtorEq, RC, Int.cast_ofNat_Int, hn, g0, tmod_lit, wrap_fit, hk]
  refine (St.refl _ H1).eNew 2 [I 0, .slice none 0 0] rfl rfl rfl tS27 fun A H3 hS => ?_
  repeat first | (with_reducible first | refine Wp.seq ?_ | refine Wp.reg ?_ | refine Wp.block ?_ | refine Wp.skip ?_ | refine Wp.ret ?_ | refine Wp.exit ?_ | refine Wp.label ?_ | refine Wp.condG ?_) | simp (disch := omega) only [↓RP, RQ, TS, TR, ↓reduceIte, Nat.reduceEqDiff, Nat.reduceLT, Nat.reduceLeDiff, Int.reduceLT, Int.reduceLE, Int.reduceEq, Int.reduceAdd, Int.reduceSub, Int.reduceNeg, Int.reduceToNat, Nat.reduceAdd, Nat.reduceMul, Nat.reduceSub, reduceCtorEq, RC, Int.cast_ofNat_Int, hn, g0]
  refine hS.eStore 0 rfl [_, _] rfl rfl tS27 (by simp) fun H4 hS => ?_
  simp only [List.nil_append, List.cons_append, List.append_nil, List.set_cons_zero, List.set_cons_succ, setMany_cons, setMany_nil, Nat.zero_add, Nat.mul_one, Nat.add_zero] at hS
  have hS := hS.nil 1
  simp only [List.nil_append, List.cons_append, List.append_nil, List.set_cons_zero, List.set_cons_succ, setMany_cons, setMany_nil, Nat.zero_add, Nat.mul_one, Nat.add_zero] at hS
  repeat first | (with_reducible first | refine Wp.seq ?_ | refine Wp.reg ?_ | refine Wp.block ?_ | refine Wp.skip ?_ | refine Wp.ret ?_ | refine Wp.exit ?_ | refine Wp.label ?_ | refine Wp.condG ?_) | simp (disch := omega) only [↓RP, RQ, TS, TR, ↓reduceIte, Nat.reduceEqDiff, Nat.reduceLT, Nat.reduceLeDiff, Int.reduceLT, Int.reduceLE, Int.reduceEq, Int.reduceAdd, Int.reduceSub, Int.reduceNeg, Int.reduceToNat, Nat.reduceAdd, Nat.reduceMul, Nat.reduceSub, reduceCtorEq, RC, Int.cast_ofNat_Int, hn, g0]
  have hle : ∀ i, i + 1 ≤ k → (ln (i + 1)).length ≤ 60 := fun i hi => by rw [ln_length]; omega
  refine Wp.loopN (fun n l H' => l.length = 92 ∧ get l 3 = I k ∧ get l 4 = ptr A 0 2 ∧ ∃ (i : Nat) (w : Value), n + i + 1 = k ∧ get l 5 = I i ∧ St Try.prog H1 H' [⟨ptr A 0 2, 0, [I k, w]⟩, ⟨w, 2, eg (ln (i + 1))⟩]) (k - 1) ?_ ?_
  · repeat first | (with_reducible first | refine Wp.seq ?_ | refine Wp.reg ?_ | refine Wp.block ?_ | refine Wp.skip ?_ | refine Wp.ret ?_ | refine Wp.exit ?_ | refine Wp.label ?_ | refine Wp.condG ?_) | simp (disch := omega) only [↓RP, RQ, TS, TR, ↓reduceIte, Nat.reduceEqDiff, Nat.reduceLT, Nat.reduceLeDiff, Int.reduceLT, Int.reduceLE, Int.reduceEq, Int.reduceAdd, Int.reduceSub, Int.reduceNeg, Int.reduceToNat, Nat.reduceAdd, Nat.reduceMul, Nat.reduceSub, reduceCtorEq, RC, Int.cast_ofNat_Int, hn, g0]
    exact ⟨0, _, by omega, rfl, hS⟩
  clear hn g0 hS
  rintro n l H' ⟨hn, g3, g4, i, w, hi, g5, hS⟩
  repeat first | (with_reducible first | refine Wp.seq ?_ | refine Wp.reg ?_ | refine Wp.block ?_ | refine Wp.skip ?_ | refine Wp.ret ?_ | refine Wp.exit ?_ | refine Wp.label ?_ | refine Wp.condG ?_) | simp (disch := omega) only [↓RP, RQ, TS, TR, ↓reduceIte, Nat.reduceEqDiff, Nat.reduceLT, Nat.reduceLeDiff, Int.reduceLT, Int.reduceLE, Int.reduceEq, Int.reduceAdd, Int.reduceSub, Int.reduceNeg, Int.reduceToNat, Nat.reduceAdd, Nat.reduceMul, Nat.reduceSub, reduceCtorEq, RC, Int.cast_ofNat_Int, hn, g3, g4, g5, wrap_fit]
  refine condW_split (fun h => ?_) (fun h => ?_)
  · have := hle i (by omega)
    repeat first | (with_reducible first | refine Wp.seq ?_ | refine Wp.reg ?_ | refine Wp.block ?_ | refine Wp.skip ?_ | refine Wp.ret ?_ | refine Wp.exit ?_ | refine Wp.label ?_ | refine Wp.condG ?_) | simp (disch := omega) only [↓RP, RQ, TS, TR, ↓reduceIte, Nat.reduceEqDiff, Nat.reduceLT, Nat.reduceLeDiff, Int.reduceLT, Int.reduceLE, Int.reduceEq, Int.reduceAdd, Int.reduceSub, Int.reduceNeg, Int.reduceToNat, Nat.reduceAdd, Nat.reduceMul, Nat.reduceSub, reduceCtorEq, RC, Int.cast_ofNat_Int, hn, g3, g4, g5, wrap_fit, hS.ld 0 rfl]
    refine hS.eSlice [I _, I _] tP25 tF25 rfl rfl (by simp [Value.cells]) rfl rfl (by decide) (by decide) fun x H7 hS => ?_
    repeat first | (with_reducible first | refine Wp.seq ?_ | refine Wp.reg ?_ | refine Wp.block ?_ | refine Wp.skip ?_ | refine Wp.ret ?_ | refine Wp.exit ?_ | refine Wp.label ?_ | refine Wp.condG ?_) | simp (disch := omega) only [↓RP, RQ, TS, TR, ↓reduceIte, Nat.reduceEqDiff, Nat.reduceLT, Nat.reduceLeDiff, Int.reduceLT, Int.reduceLE, Int.reduceEq, Int.reduceAdd, Int.reduceSub, Int.reduceNeg, Int.reduceToNat, Nat.reduceAdd, Nat.reduceMul, Nat.reduceSub, reduceCtorEq, RC, Int.cast_ofNat_Int, hn, g3, g4, g5]
    refine hS.eAppend 1 rfl (hS.rd 2 rfl) tP25 (by simp only [eg_length, List.length_cons, List.length_nil]; omega) fun w' H8 hS => ?_
    have hw := (hS.rd 1 rfl).cells
    repeat first | (with_reducible first | refine Wp.seq ?_ | refine Wp.reg ?_ | refine Wp.block ?_ | refine Wp.skip ?_ | refine Wp.ret ?_ | refine Wp.exit ?_ | refine Wp.label ?_ | refine Wp.condG ?_) | simp (disch := omega) only [↓RP, RQ, TS, TR, ↓reduceIte, Nat.reduceEqDiff, Nat.reduceLT, Nat.reduceLeDiff, Int.reduceLT, Int.reduceLE, Int.reduceEq, Int.reduceAdd, Int.reduceSub, Int.reduceNeg, Int.reduceToNat, Nat.reduceAdd, Nat.reduceMul, Nat.reduceSub, reduceCtorEq, RC, Int.cast_ofNat_Int, hn, g3, g4, g5]
    refine hS.eStore 0 rfl [w'] (by rw [hw.1]) (by simp [hw.2.1]) tS25 (by simp) fun H9 hS => ?_
    simp only [List.nil_append, List.cons_append, List.append_nil, List.set_cons_zero, List.set_cons_succ, setMany_cons, setMany_nil, Nat.zero_add, Nat.mul_one, Nat.add_zero] at hS
    repeat first | (with_reducible first | refine Wp.seq ?_ | refine Wp.reg ?_ | refine Wp.block ?_ | refine Wp.skip ?_ | refine Wp.ret ?_ | refine Wp.exit ?_ | refine Wp.label ?_ | refine Wp.condG ?_) | simp (disch := omega) only [↓RP, RQ, TS, TR, ↓reduceIte, Nat.reduceEqDiff, Nat.reduceLT, Nat.reduceLeDiff, Int.reduceLT, Int.reduceLE, Int.reduceEq, Int.reduceAdd, Int.reduceSub, Int.reduceNeg, Int.reduceToNat, Nat.reduceAdd, Nat.reduceMul, Nat.reduceSub, reduceCtorEq, RC, Int.cast_ofNat_Int, hn, g3, g4, g5, wrap_fit]
    refine ⟨n - 1, by omega, i + 1, w', by omega, rfl, ?_⟩
    rw [ln_succ (i + 1) (by omega), show eg (ln (i + 1) ++ [(i + 1 - 1, i + 1)]) = eg (ln (i + 1)) ++ [I i, I (i + 1 : Nat)] from by unfold eg; rw [List.flatMap_append]; rfl]
    exact hS.sub (by simp)
  obtain rfl : k = i + 1 := by omega
  have hval : ∀ e ∈ ln (i + 1), e.1 < i + 1 ∧ e.2 < i + 1 := fun e he => by
    have := ln_mem (k := i + 1) (a := e.1) (b := e.2) |>.1 he
    omega
  have hll := ln_length (i + 1)
  have hE : Eg H' w (ln (i + 1)) := hS.rd 1 rfl
  repeat first | (with_reducible first | refine Wp.seq ?_ | refine Wp.reg ?_ | refine Wp.block ?_ | refine Wp.skip ?_ | refine Wp.ret ?_ | refine Wp.exit ?_ | refine Wp.label ?_ | refine Wp.condG ?_) | simp (disch := omega) only [↓RP, RQ, TS, TR, ↓reduceIte, Nat.reduceEqDiff, Nat.reduceLT, Nat.reduceLeDiff, Int.reduceLT, Int.reduceLE, Int.reduceEq, Int.reduceAdd, Int.reduceSub, Int.reduceNeg, Int.reduceToNat, Nat.reduceAdd, Nat.reduceMul, Nat.reduceSub, reduceCtorEq, RC, Int.cast_ofNat_Int, hn, g3, g4, g5, hS.ldA 0 rfl]
  refine callFW_of (closure_ok (i + 1) w _ hE (by omega) (by omega) hval) ?_
  rintro r H2 ⟨ds, hds, hcase⟩
  have hcl := clo_ln hval hds (i + 1) (Nat.le_refl _)
  have hcase2 : ∃ (m : Int) (wc : Value) (cl : List (Nat × Nat)) (e : Int), r = .tuple #[.agg #[I m, wc], I e] ∧ St Try.prog H' H2 [⟨wc, 2, eg cl⟩] ∧ (((clo (i + 1) (ln (i + 1)) ds (i + 1)).length ≤ 1000 ∧ e = 0 ∧ cl = clo (i + 1) (ln (i + 1)) ds (i + 1)) ∨ (1000 < (clo (i + 1) (ln (i + 1)) ds (i + 1)).length ∧ e = 4 ∧ m = 0 ∧ cl = [])) := by
    rcases hcase with ⟨h1, wc, rfl, h2⟩ | ⟨h1, rfl, h2⟩
    · exact ⟨_, wc, _, _, rfl, h2, .inl ⟨h1, rfl, rfl⟩⟩
    · exact ⟨_, _, [], _, rfl, h2.nil 1, .inr ⟨h1, rfl, rfl, rfl⟩⟩
  clear hcase
  obtain ⟨m, wc, cl, e, rfl, hS2, hcase⟩ := hcase2
  generalize (clo (i + 1) (ln (i + 1)) ds (i + 1)) = co at hcl hcase
  have hS := hS.trans hS2
  simp only [List.nil_append, List.cons_append, List.append_nil, List.set_cons_zero, List.set_cons_succ, setMany_cons, setMany_nil, Nat.zero_add, Nat.mul_one, Nat.add_zero] at hS
  repeat first | (with_reducible first | refine Wp.seq ?_ | refine Wp.reg ?_ | refine Wp.block ?_ | refine Wp.skip ?_ | refine Wp.ret ?_ | refine Wp.exit ?_ | refine Wp.label ?_ | refine Wp.condG ?_) | simp (disch := omega) only [↓RP, RQ, TS, TR, ↓reduceIte, Nat.reduceEqDiff, Nat.reduceLT, Nat.reduceLeDiff, Int.reduceLT, Int.reduceLE, Int.reduceEq, Int.reduceAdd, Int.reduceSub, Int.reduceNeg, Int.reduceToNat, Nat.reduceAdd, Nat.reduceMul, Nat.reduceSub, reduceCtorEq, RC, Int.cast_ofNat_Int, hn, g3, g4, g5]
  refine hS.eNew 2 [I 0, .slice none 0 0] rfl rfl rfl tS27 fun B H5 hS => ?_
  have hwc := (hS.rd 2 rfl).cells
  repeat first | (with_reducible first | refine Wp.seq ?_ | refine Wp.reg ?_ | refine Wp.block ?_ | refine Wp.skip ?_ | refine Wp.ret ?_ | refine Wp.exit ?_ | refine Wp.label ?_ | refine Wp.condG ?_) | simp (disch := omega) only [↓RP, RQ, TS, TR, ↓reduceIte, Nat.reduceEqDiff, Nat.reduceLT, Nat.reduceLeDiff, Int.reduceLT, Int.reduceLE, Int.reduceEq, Int.reduceAdd, Int.reduceSub, Int.reduceNeg, Int.reduceToNat, Nat.reduceAdd, Nat.reduceMul, Nat.reduceSub, reduceCtorEq, RC, Int.cast_ofNat_Int, hn, g3, g4, g5]
  refine hS.eStore 3 rfl [I m, wc] rfl (by simp [hwc.2.1]; rfl) tS27 (by simp) fun H6 hS => ?_
  simp only [List.nil_append, List.cons_append, List.append_nil, List.set_cons_zero, List.set_cons_succ, setMany_cons, setMany_nil, Nat.zero_add, Nat.mul_one, Nat.add_zero] at hS
  have hsub : (((i + 1 : Nat) : Int) - 1) = ((i : Nat) : Int) := by omega
  repeat first | (with_reducible first | refine Wp.seq ?_ | refine Wp.reg ?_ | refine Wp.block ?_ | refine Wp.skip ?_ | refine Wp.ret ?_ | refine Wp.exit ?_ | refine Wp.label ?_ | refine Wp.condG ?_) | simp (disch := omega) only [↓RP, RQ, TS, TR, ↓reduceIte, Nat.reduceEqDiff, Nat.reduceLT, Nat.reduceLeDiff, Int.reduceLT, Int.reduceLE, Int.reduceEq, Int.reduceAdd, Int.reduceSub, Int.reduceNeg, Int.reduceToNat, Nat.reduceAdd, Nat.reduceMul, Nat.reduceSub, reduceCtorEq, RC, Int.cast_ofNat_Int, hn, g3, g4, g5, hS.ldA 0 rfl, wrap_fit, hsub]
  refine callFW_of (path_ok (i + 1) w _ (hS.rd 1 rfl) (by omega) (by omega) hval 0 i (by omega) (by omega)) ?_
  rintro r H7 ⟨d, wp, hd, hdN, rfl, hS2⟩
  have hd0 : d.getD 0 0 = i := by
    have hw : W (tE (ln (i + 1))) i i 0 := W_rev.2 (W_ln.2 ⟨by omega, fun _ => by omega⟩)
    by_cases hneg : d.getD 0 0 < 0
    · exact ((hd.neg 0 (by omega) hneg).2 _ hw).elim
    · have h3 := (hd.pos 0 (by omega) (by omega)).1
      have := W_ln.1 (W_rev.1 h3)
      omega
  rw [if_pos (by omega), hd0, Int.toNat_natCast] at hS2
  have e1 : decide (0 ≤ d.getD 0 0) = true := decide_eq_true (by omega)
  rw [e1]
  have hS := hS.trans hS2
  simp only [List.nil_append, List.cons_append, List.append_nil, List.set_cons_zero, List.set_cons_succ, setMany_cons, setMany_nil, Nat.zero_add, Nat.mul_one, Nat.add_zero] at hS
  have hwp : Sl1 H7 wp (fun n : Nat => I n) (pF (ln (i + 1)) 0 d i 0) := hS.rd 4 rfl
  have hpl := pF_length (ln (i + 1)) 0 d i 0
  have hcv : Sl2 H7 wc _ _ cl := hS.rd 2 rfl
  have hmul : (((i + 1 : Nat) : Int) * (i : Int)) = 2 * ((co.length : Nat) : Int) := by
    have h1 : (i + 1) * i = 2 * co.length := by
      rw [Nat.succ_mul i i]
      rw [Nat.succ_mul i (i + 1), Nat.mul_succ i i] at hcl
      omega
    have h2 : (((i + 1) * i : Nat) : Int) = ((2 * co.length : Nat) : Int) := by rw [h1]
    rw [Int.natCast_mul, Int.natCast_mul] at h2
    exact h2
  have hco : co.length ≤ 4000 := by
    have h1 : i * i ≤ 60 * 60 := Nat.mul_le_mul (by omega) (by omega)
    rw [Nat.succ_mul i (i + 1), Nat.mul_succ i i] at hcl
    omega
  have hdiv : (2 * ((co.length : Nat) : Int)).tdiv 2 = ((co.length : Nat) : Int) := Int.mul_tdiv_cancel_left _ (by decide)
  repeat first | (with_reducible first | refine Wp.seq ?_ | refine Wp.reg ?_ | refine Wp.block ?_ | refine Wp.skip ?_ | refine Wp.ret ?_ | refine Wp.exit ?_ | refine Wp.label ?_ | refine Wp.condG ?_) | simp (disch := omega) only [↓RP, RQ, TS, TR, ↓reduceIte, Nat.reduceEqDiff, Nat.reduceLT, Nat.reduceLeDiff, Int.reduceLT, Int.reduceLE, Int.reduceEq, Int.reduceAdd, Int.reduceSub, Int.reduceNeg, Int.reduceToNat, Nat.reduceAdd, Nat.reduceMul, Nat.reduceSub, reduceCtorEq, RC, Int.cast_ofNat_Int, hn, g3, g4, g5, hwp.len, hpl, wrap_fit, hsub, hmul, hdiv]
  rcases hcase with ⟨h1, rfl, rfl⟩ | ⟨h1, rfl, rfl, rfl⟩
  · refine condW_split (fun h => absurd h (by omega)) (fun _ => ?_)
    repeat first | (with_reducible first | refine Wp.seq ?_ | refine Wp.reg ?_ | refine Wp.block ?_ | refine Wp.skip ?_ | refine Wp.ret ?_ | refine Wp.exit ?_ | refine Wp.label ?_ | refine Wp.condG ?_) | simp (disch := omega) only [↓RP, RQ, TS, TR, ↓reduceIte, Nat.reduceEqDiff, Nat.reduceLT, Nat.reduceLeDiff, Int.reduceLT, Int.reduceLE, Int.reduceEq, Int.reduceAdd, Int.reduceSub, Int.reduceNeg, Int.reduceToNat, Nat.reduceAdd, Nat.reduceMul, Nat.reduceSub, reduceCtorEq, RC, Int.cast_ofNat_Int, hn, g3, g4, g5, wrap_fit, hsub, hmul, hdiv, hS.ld 3 rfl, hcv.len]
  · refine condW_split (fun _ => ?_) (fun h => absurd h (by omega))
    repeat first | (with_reducible first | refine Wp.seq ?_ | refine Wp.reg ?_ | refine Wp.block ?_ | refine Wp.skip ?_ | refine Wp.ret ?_ | refine Wp.exit ?_ | refine Wp.label ?_ | refine Wp.condG ?_) | simp (disch := omega) only [↓RP, RQ, TS, TR, ↓reduceIte, Nat.reduceEqDiff, Nat.reduceLT, Nat.reduceLeDiff, Int.reduceLT, Int.reduceLE, Int.reduceEq, Int.reduceAdd, Int.reduceSub, Int.reduceNeg, Int.reduceToNat, Nat.reduceAdd, Nat.reduceMul, Nat.reduceSub, reduceCtorEq, RC, Int.cast_ofNat_Int, hn, g3, g4, g5, wrap_fit, hsub, hmul, hdiv, hS.ld 3 rfl, hcv.len]
end Go.Ds
/-
  Ds: from the model's world to a heap of ours, and back.
-/
namespace Go.Ds
open Go.RowKit
section
variable {P : Program} {H : Heap}

theorem CallOk.calls {ρ : Rho} {w : World} {f : FuncId} {args : List Value} {v : Value} {H' : Heap} (h : CallOk P f args H v H') {args' : Array Value} (hr : HRel P ρ H w) (ha : All2 (V ρ) args args'.toList) :
    Calls P f args' w fun e w' => ∃ ρ' v', e = .returned v' ∧ Post P ρ H w ρ' H' w' ∧ V ρ' v v' :=
  (h 0 ρ w args' hr ha).calls fun k => by intro d h; cases h

/-- Nothing of what came in may be written. -/
def Shut (ρ : Rho) (H : Heap) : Prop := ∀ b, ¬ Wr ρ H b

theorem Fn.calls {ρ : Rho} {w : World} {f : FuncId} {args : List Value} {b : Bool} (h : Fn P f args H fun v _ => v = .bool b) {args' : Array Value} (hr : HRel P ρ H w) (hs : Shut ρ H) (ha : All2 (V ρ) args args'.toList) :
    Calls P f args' w fun e w' => e = .returned (.bool b) ∧ Below w.heap.size w w' := by
  obtain ⟨_, v, H1, h1, rfl⟩ := h
  refine (h1.calls hr ha).mono ?_
  rintro e w' ⟨ρ', v', rfl, hp, hv⟩
  refine ⟨?_, hp.os, hp.tape, hp.output, hp.size, fun k hk => (hp.frame k hk (hs k)).1⟩
  rw [hv.eq_of_flat rfl]

theorem HRel.none (w : World) : HRel P (fun _ _ => Option.none) .nil w := .empty w
theorem Shut.none : Shut (fun _ _ => Option.none) .nil := fun b ⟨A, e, p, blk, h, _⟩ => by cases h

/-- One slice that came in, to be read. -/
theorem HRel.input {w : World} {b off len cap size : Nat} {cur : Array Value} {t' : TypeId} {fr : Nat × Nat} (hb : w.heap[b]? = some (.cells cur t' fr)) {ty : TypeId} (hty : sizeP P ty = some size) (hl : len ≤ cap) (hsz : cap = 0 ∨ off + cap * size ≤ cur.size)
    (cs : List Value) (hcs : cs.length = len * size) (hcell : ∀ i, i < cs.length → cur[off + i]? = cs[i]?) (hflat : ∀ c ∈ cs, scalar c = true) :
    ∃ (ρ : Rho) (H : Heap) (v : Value), HRel P ρ H w ∧ Shut ρ H ∧ V ρ v (.slice (some ⟨b, off, Option.none⟩) len cap) ∧ RdAt H v size cs := by
  let d : Int := if cap = 0 then 0 else off
  let p : Place := ⟨b, d, cur.size, size⟩
  have hg : hget (Heap.nil.cons (.cells cs ty false 0 0)) 0 = some (.cells cs ty false 0 0) := hget_cons_new Heap.nil _
  have hlen1 : (Heap.nil.cons (.cells cs ty false 0 0)).length = 1 := by rw [cons_eq]; rfl
  have hA : ∀ A blk, hget (Heap.nil.cons (.cells cs ty false 0 0)) A = some blk → A = 0 ∧ blk = .cells cs ty false 0 0 := by
    intro A blk h
    have : A < 1 := by rw [← hlen1]; exact hget_lt h
    obtain rfl : A = 0 := by omega
    rw [hg] at h
    exact ⟨rfl, (Option.some.inj h).symm⟩
  refine ⟨fun A e => if A = 0 ∧ e = cs.length then some p else Option.none, Heap.nil.cons (.cells cs ty false 0 0), .slice (some ⟨0, 0, some cs.length⟩) len size, ?_, ?_, ?_, ?_⟩
  · have hρ : ∀ A e q, (if A = 0 ∧ e = cs.length then some p else Option.none) = some q → A = 0 ∧ e = cs.length ∧ q = p := by
      intro A e q h
      split at h
      · rename_i hh; exact ⟨hh.1, hh.2, (Option.some.inj h).symm⟩
      · cases h
    refine ⟨?_, ?_, ?_, ?_, ?_, ?_, ?_⟩
    · intro A e q h
      obtain ⟨rfl, rfl, rfl⟩ := hρ _ _ _ h
      exact ⟨by rw [hlen1]; omega, blk_lt hb⟩
    · intro A cs' ty' rw' lo ver h
      obtain ⟨rfl, he⟩ := hA _ _ h
      cases he
      refine ⟨⟨p, by simp⟩, ?_⟩
      intro e q hq
      obtain ⟨_, rfl, rfl⟩ := hρ _ _ _ hq
      refine ⟨Nat.le_refl _, hty, ?_, cur, t', fr, hb, rfl, (fun h => by cases h), ?_⟩
      · show ((cs.length : Nat) : Int) + d ≤ cur.size
        rcases hsz with h0 | h0
        · have : len = 0 := by omega
          subst this
          simp only [d, if_pos h0]
          rw [hcs]; simp
        · simp only [d]
          split
          · rename_i hc
            have : len = 0 := by omega
            subst this
            rw [hcs]; simp
          · have : len * size ≤ cap * size := Nat.mul_le_mul_right _ hl
            omega
      · intro _ i c hi h0 hc
        have hcap : cap ≠ 0 := fun hc0 => by
          have : len = 0 := by omega
          subst this
          simp at hcs
          simp [hcs] at hi
        have hat : p.at i = off + i := by
          simp only [Place.at, p, d, if_neg hcap]
          omega
        refine ⟨c, by rw [hat, hcell i hi, hc], .of_scalar (hflat c (List.mem_of_getElem? hc))⟩
    · intro A es ck ver h
      have := (hA _ _ h).2; cases this
    · intro A r h
      have := (hA _ _ h).2; cases this
    · intro A e q blk h hblk
      rw [(hA _ _ hblk).2]; exact .inl rfl
    · intro A e q A2 e2 q2 blk h h2 _ hblk hw
      rw [(hA _ _ hblk).2] at hw; cases hw
    · intro A h
      rw [hlen1] at h
      obtain rfl : A = 0 := by omega
      rw [hg]; rfl
  · rintro b' ⟨A, e, q, blk, h, _, hblk, hw⟩
    rw [(hA _ _ hblk).2] at hw; cases hw
  · refine .v1 (.c1 (.c0 ?_))
    have h1 : (fun A e => if A = 0 ∧ e = cs.length then some p else Option.none : Rho) 0 cs.length = some p := by simp
    refine C0.slice (p := p) h1 ?_ ?_ hl ?_
    · show (0 : Int) ≤ ((0 : Nat) : Int) + d
      simp only [d]; split <;> omega
    · show 0 + len * size ≤ cs.length
      omega
    · rcases hsz with h0 | h0
      · exact .inr ⟨by omega, h0⟩
      · by_cases hc : cap = 0
        · exact .inr ⟨by omega, hc⟩
        · left
          have hat : p.at 0 = off := by simp only [Place.at, p, d, if_neg hc]; omega
          rw [hat]
          exact ⟨rfl, h0⟩
  · refine .inr ⟨0, 0, cs.length, cs, ty, false, 0, 0, len, hg, Nat.zero_le _, Nat.le_refl _, by omega, by simp, hcs, rfl⟩
end
end Go.Ds
/-
  A described graph's links, as they come in.
-/
namespace Go.Ds
open Go.Proofs Go.ChangeShapes Go.WideShapes Go.RowKit

def numN (v : Value) : Nat := match v with | .int _ n => n.toNat | _ => 0

theorem cell_at {w : World} {b off j : Nat} {v : Value} {cur : Array Value} {t : TypeId} {fr : Nat × Nat} (hb : w.heap[b]? = some (.cells cur t fr)) (h : w.cell? ((⟨b, off, none⟩ : Addr).add j) = some v) : cur[off + j]? = some v := by
  have e : (⟨b, off, none⟩ : Addr).add j = ⟨b, off + j, none⟩ := by
    unfold Addr.add
    split
    · rename_i h0; subst h0; rfl
    · rfl
  rw [e] at h
  simp only [World.cell?, hb] at h
  simpa using h

theorem u8_of {H : Type} {enc : TypeId × Value → H} {w : World} {base : Nat} {spare : Nat → Bool} {held : Bool} {n : Nat} {v : Value} {x : DataW H × List MemPlace} (h : DataW.trod enc Try.prog w base spare held n 5 [v] = some x) : v = U (numN v) ∧ numN v < 256 := by
  obtain ⟨m, hv, _, hw⟩ := DataW.trod_int Try.underlying5 h
  have hv : v = .int .u8 m := by simpa using hv
  subst hv
  have hm : 0 ≤ m ∧ m ≤ 255 := by simpa [Lit.wf, IntKind.min, IntKind.max, IntKind.signed, IntKind.bits] using hw
  simp only [numN]
  refine ⟨?_, by omega⟩
  rw [Int.toNat_of_nonneg hm.1]

theorem flat2_get {α : Type} (f g : α → Value) (xs : List α) (j : Nat) (hj : j < xs.length) (d : α) : (xs.flatMap fun x => [f x, g x])[j * 2]? = some (f (xs.getD j d)) ∧ (xs.flatMap fun x => [f x, g x])[j * 2 + 1]? = some (g (xs.getD j d)) := by
  have := Sl2.drop (f := f) (g := g) j hj d
  constructor
  · have h2 : ((xs.flatMap fun x => [f x, g x]).drop (j * 2))[0]? = some (f (xs.getD j d)) := by rw [this]; rfl
    rwa [List.getElem?_drop] at h2
  · have h2 : ((xs.flatMap fun x => [f x, g x]).drop (j * 2))[1]? = some (g (xs.getD j d)) := by rw [this]; rfl
    rwa [List.getElem?_drop] at h2

theorem ce60 : Try.prog.cellsOf 60 = 2 := by kernel_rfl
theorem ce5 : Try.prog.cellsOf 5 = 1 := by kernel_rfl
set_option maxRecDepth 100000 in
theorem links_in {H : Type} {enc : TypeId × Value → H} {W : World} {base b0 : Nat} {v0 : Value} {d0 : DataW H} {p0 : List MemPlace} (h0 : DataW.Trod enc Try.prog W base (fun _ => true) true 22 v0 d0 p0) (hval : Value.okWide Try.prog W .any b0 22 v0) :
    ∃ (ρ : Rho) (H : Heap) (v : Value) (ls : List (Nat × Nat)), HRel Try.prog ρ H W ∧ Shut ρ H ∧ V ρ v v0 ∧ Lk H v ls ∧ ∀ x ∈ ls, x.1 < 256 ∧ x.2 < 256 := by
  obtain ⟨a0, len, cap, rfl⟩ := okWide_slice Try.underlying22 hval
  obtain ⟨fuel, hf⟩ := h0
  rcases Go.Deep.open_slice_pairs Try.underlying22 Try.underlying60 ce60 rfl rfl ce5 ce5 hf with ⟨hcs, _⟩ | ⟨a, len', cap', m, n, V0, V1, D0, D1, P0, P1, hcs, _, hl, _, hmm, _, hcell⟩
  · simp [Value.cells] at hcs
    obtain ⟨rfl, rfl, rfl⟩ := hcs
    exact ⟨_, _, .slice none 0 0, [], .none W, .none, .of_flat rfl, .inl ⟨rfl, rfl⟩, by simp⟩
  · simp [Value.cells] at hcs
    obtain ⟨h1, h2, h3⟩ := hcs
    subst h1
    simp only [if_true] at hmm
    rw [← h2, ← h3] at hl
    rw [← h3] at hmm
    rw [hmm] at hcell
    clear h2 h3 hmm
    simp only [Value.okWide, Try.underlying22, Cell.okWide, Cell.ok] at hval
    obtain ⟨_, _, _, hspot, row, cells, hshape, _⟩ := hval
    obtain ⟨b, off, spot⟩ := a
    simp only at hspot hshape
    subst hspot
    unfold World.shape? at hshape
    split at hshape
    case h_2 => cases hshape
    rename_i cur t' fr hb
    have hc0 : ∀ i, i < cap → cur[off + i * 2]? = some (V0 i) := fun i hi => cell_at hb (hcell i hi).1
    have hc1 : ∀ i, i < cap → cur[off + (i * 2 + 1)]? = some (V1 i) := fun i hi => cell_at hb (hcell i hi).2.1
    have hu0 : ∀ i, i < cap → V0 i = U (numN (V0 i)) ∧ numN (V0 i) < 256 := fun i hi => u8_of (hcell i hi).2.2.1
    have hu1 : ∀ i, i < cap → V1 i = U (numN (V1 i)) ∧ numN (V1 i) < 256 := fun i hi => u8_of (hcell i hi).2.2.2
    let ls : List (Nat × Nat) := (List.range len).map fun i => (numN (V0 i), numN (V1 i))
    have hll : ls.length = len := by simp [ls]
    have hlg : ∀ i, i < len → ls.getD i (0, 0) = (numN (V0 i), numN (V1 i)) := fun i hi => by simp [ls, List.getD_eq_getElem?_getD, hi]
    have hsz : cap = 0 ∨ off + cap * 2 ≤ cur.size := by
      by_cases h0 : cap = 0
      · exact .inl h0
      · right
        have := (Array.getElem?_eq_some_iff.1 (hc1 (cap - 1) (by omega))).1
        omega
    obtain ⟨ρ, H', v, h1, h2, h3, h4⟩ := HRel.input (P := Try.prog) hb tS60 hl hsz (ls.flatMap fun e => [U e.1, U e.2]) (by rw [flat2_length, hll]) (by
      intro i hi
      rw [flat2_length, hll] at hi
      have hj : i / 2 < len := by omega
      have hg := flat2_get (fun e : Nat × Nat => U e.1) (fun e => U e.2) ls (i / 2) (by rw [hll]; exact hj) (0, 0)
      rw [hlg _ hj] at hg
      by_cases hp : i % 2 = 0
      · have e : i = i / 2 * 2 := by omega
        rw [e, hg.1, hc0 _ (by omega)]
        exact congrArg some (hu0 _ (by omega)).1
      · have e : i = i / 2 * 2 + 1 := by omega
        rw [e, hg.2, hc1 _ (by omega)]
        exact congrArg some (hu1 _ (by omega)).1) (by
      intro c hc
      obtain ⟨x, _, hx⟩ := List.mem_flatMap.1 hc
      simp only [List.mem_cons, List.not_mem_nil, or_false] at hx
      rcases hx with rfl | rfl <;> rfl)
    refine ⟨ρ, H', v, ls, h1, h2, h3, h4, ?_⟩
    intro x hx
    obtain ⟨i, hi, rfl⟩ := List.mem_map.1 hx
    have := List.mem_range.1 hi
    exact ⟨(hu0 i (by omega)).2, (hu1 i (by omega)).2⟩

theorem u8_in {w : Int} (h : (Lit.int .u8 w).wf = true) : ∃ n : Nat, n < 256 ∧ w = n := by
  have hm : 0 ≤ w ∧ w ≤ 255 := by simpa [Lit.wf, IntKind.min, IntKind.max, IntKind.signed, IntKind.bits] using h
  exact ⟨w.toNat, by omega, by omega⟩
end Go.Ds
