/-
  Contracts: slices.Compact at edges.
-/
import Derived.Test.YtoanhpaipfgnfaaVC
set_option linter.unusedVariables false
set_option linter.unusedSimpArgs false
namespace Go.Ds
open Go.Proofs Go.Plain
variable {H : Heap}

theorem tC25 : clrOk Try.prog 25 = some (1 + 1) := by kernel_rfl
theorem binW_eqlS48 {l : List Value} {K : Value → Heap → Prop} {d : Option Tmp} {ty : TypeId} {pos : String} {af : Array Edge} {g : Option (Nat × Bool)} {p q : Tmp} {t2 : TypeId} {a b c e : Int} (hx : get l p = .agg #[I a, I b]) (hy : get l q = .agg #[I c, I e])
    (h : K (.bool ((a == c) && (b == e))) H) : binW Try.prog ⟨d, .binOp .eql 48 (.tmp p) (.tmp q) t2, ty, pos, af, g⟩ .eql l H (.agg #[I a, I b]) (.agg #[I c, I e]) K := by
  have h1 := binD_eqlS (l := l) (d := d) (ty := ty) (pos := pos) (af := af) (g := g) (t := 48) (t2 := t2) (H := H) hx hy (by kernel_rfl) (eqS48 9998 a b c e)
  have hx' : ev l (.tmp p) = .agg #[I a, I b] := hx
  have hy' : ev l (.tmp q) = .agg #[I c, I e] := hy
  show bindW (opD Try.prog ⟨d, .binOp .eql 48 (.tmp p) (.tmp q) t2, ty, pos, af, g⟩ l H) K
  have h3 : opD Try.prog ⟨d, .binOp .eql 48 (.tmp p) (.tmp q) t2, ty, pos, af, g⟩ l H = some (.bool ((a == c) && (b == e)), H) := by
    simp only [opD, hx', hy', h1]
  rw [h3]
  exact h
theorem beqE (x y : Nat × Nat) : (((x.1 : Int) == (y.1 : Int)) && ((x.2 : Int) == (y.2 : Int))) = decide (x = y) := by
  rw [Bool.eq_iff_iff, Bool.and_eq_true, beq_iff_eq, beq_iff_eq, decide_eq_true_eq]
  constructor
  · rintro ⟨h1, h2⟩
    exact Prod.ext (by omega) (by omega)
  · rintro rfl
    exact ⟨rfl, rfl⟩

/-- The first of each run of equal edges, of the first edges. -/
def dd (es : List (Nat × Nat)) (m : Nat) : List (Nat × Nat) := ((List.range m).filter fun i => decide (i = 0 ∨ es.getD i (0, 0) ≠ es.getD (i - 1) (0, 0))).map fun i => es.getD i (0, 0)
theorem dd_succ (es : List (Nat × Nat)) (m : Nat) : dd es (m + 1) = dd es m ++ (if m = 0 ∨ es.getD m (0, 0) ≠ es.getD (m - 1) (0, 0) then [es.getD m (0, 0)] else []) := by
  unfold dd
  rw [List.range_succ, List.filter_append, List.map_append]
  congr 1
  by_cases h : m = 0 ∨ es.getD m (0, 0) ≠ es.getD (m - 1) (0, 0)
  · rw [if_pos h]
    simp only [List.filter_cons, List.filter_nil, decide_eq_true h, if_true, List.map_cons, List.map_nil]
  · rw [if_neg h]
    simp only [List.filter_cons, List.filter_nil, decide_eq_false h, Bool.false_eq_true, if_false, List.map_nil]
theorem dd_le (es : List (Nat × Nat)) (m : Nat) : (dd es m).length ≤ m := by
  unfold dd
  rw [List.length_map]
  refine Nat.le_trans (List.length_filter_le _ _) ?_
  simp
theorem dd_all (es : List (Nat × Nat)) : ∀ m, m ≤ es.length → (∀ j, 0 < j → j < m → es.getD j (0, 0) ≠ es.getD (j - 1) (0, 0)) → dd es m = es.take m
  | 0, _, _ => by simp [dd]
  | m + 1, hm, h => by
    have ih := dd_all es m (by omega) fun j h1 h2 => h j h1 (by omega)
    rw [dd_succ, ih, take_succ_getD es m (0, 0) (by omega), if_pos]
    by_cases h0 : m = 0
    · exact .inl h0
    · exact .inr (h m (by omega) (by omega))
theorem eg_append (a b : List (Nat × Nat)) : eg (a ++ b) = eg a ++ eg b := List.flatMap_append
theorem eg_drop (a : List (Nat × Nat)) (k : Nat) : (eg a).drop (k * 2) = eg (a.drop k) := flat2_drop _ _ a k

theorem compact_ok {H0 : Base} {os : List Ob} {v : Value} {es : List (Nat × Nat)} (hS : St Try.prog H0 H (⟨v, 2, eg es⟩ :: os)) (hl : es.length < 1000000) :
    Fn Try.prog 54 [v] H fun r H' => ∃ rest : List Value, (∀ H2, RdAt H2 v 2 (eg (dd es es.length) ++ rest) → RdAt H2 r 2 (eg (dd es es.length))) ∧ St Try.prog H0 H' (⟨v, 2, eg (dd es es.length) ++ rest⟩ :: os) := by
  have hv : Sl2 H v _ _ es := hS.rd 0 rfl
  refine Fn.of_wp (fn := Try.f54) rfl rfl (by kernel_rfl) fun l hl => ?_
  have hn : l.length = 61 := by rw [hl]; rfl
  have g0 : get l 0 = v := by rw [hl]; rfl
  clear hl
  repeat first | (with_reducible first | refine Wp.seq ?_ | refine Wp.reg ?_ | refine Wp.block ?_ | refine Wp.skip ?_ | refine Wp.ret ?_ | refine Wp.exit ?_ | refine Wp.label ?_ | refine Wp.condG ?_) | simp (disch := omega) only [↓RP, RQ, TS, TR, ↓reduceIte, Nat.reduceEqDiff, Nat.reduceLT, Nat.reduceLeDiff, Int.reduceLT, Int.reduceLE, Int.reduceEq, Int.reduceAdd, Int.reduceSub, Int.reduceNeg, Int.reduceToNat, Nat.reduceAdd, Nat.reduceMul, Nat.reduceSub, reduceCtorEq, RC, Int.cast_ofNat_Int, hn, g0, hv.len]
  refine condW_split (fun h => ?_) (fun h => ?_)
  · have hd := dd_all es es.length (Nat.le_refl _) fun j h1 h2 => by omega
    rw [List.take_length] at hd
    have hw := hS.rd 0 rfl
    repeat first | (with_reducible first | refine Wp.seq ?_ | refine Wp.reg ?_ | refine Wp.block ?_ | refine Wp.skip ?_ | refine Wp.ret ?_ | refine Wp.exit ?_ | refine Wp.label ?_ | refine Wp.condG ?_) | simp (disch := omega) only [↓RP, RQ, TS, TR, ↓reduceIte, Nat.reduceEqDiff, Nat.reduceLT, Nat.reduceLeDiff, Int.reduceLT, Int.reduceLE, Int.reduceEq, Int.reduceAdd, Int.reduceSub, Int.reduceNeg, Int.reduceToNat, Nat.reduceAdd, Nat.reduceMul, Nat.reduceSub, reduceCtorEq, RC, Int.cast_ofNat_Int, hn, g0, hw.noTuple]
    exact ⟨[], by rw [hd, List.append_nil]; exact fun _ h => h, by rw [hd, List.append_nil]; exact hS⟩
  repeat first | (with_reducible first | refine Wp.seq ?_ | refine Wp.reg ?_ | refine Wp.block ?_ | refine Wp.skip ?_ | refine Wp.ret ?_ | refine Wp.exit ?_ | refine Wp.label ?_ | refine Wp.condG ?_) | simp (disch := omega) only [↓RP, RQ, TS, TR, ↓reduceIte, Nat.reduceEqDiff, Nat.reduceLT, Nat.reduceLeDiff, Int.reduceLT, Int.reduceLE, Int.reduceEq, Int.reduceAdd, Int.reduceSub, Int.reduceNeg, Int.reduceToNat, Nat.reduceAdd, Nat.reduceMul, Nat.reduceSub, reduceCtorEq, RC, Int.cast_ofNat_Int, hn, g0]
  refine Wp.loopN (fun n l H' => H' = H ∧ l.length = 61 ∧ get l 0 = v ∧ ∃ k : Nat, 0 < k ∧ n + k = es.length ∧ get l 3 = I k ∧ ∀ j, 0 < j → j < k → es.getD j (0, 0) ≠ es.getD (j - 1) (0, 0)) (es.length - 1) ?_ ?_
  · repeat first | (with_reducible first | refine Wp.seq ?_ | refine Wp.reg ?_ | refine Wp.block ?_ | refine Wp.skip ?_ | refine Wp.ret ?_ | refine Wp.exit ?_ | refine Wp.label ?_ | refine Wp.condG ?_) | simp (disch := omega) only [↓RP, RQ, TS, TR, ↓reduceIte, Nat.reduceEqDiff, Nat.reduceLT, Nat.reduceLeDiff, Int.reduceLT, Int.reduceLE, Int.reduceEq, Int.reduceAdd, Int.reduceSub, Int.reduceNeg, Int.reduceToNat, Nat.reduceAdd, Nat.reduceMul, Nat.reduceSub, reduceCtorEq, RC, Int.cast_ofNat_Int, hn, g0]
    exact ⟨1, by omega, by omega, rfl, fun j h1 h2 => by omega⟩
  clear hn g0
  rintro n l H' ⟨rfl, hn, g0, k, hk0, hk, g3, hdis⟩
  repeat first | (with_reducible first | refine Wp.seq ?_ | refine Wp.reg ?_ | refine Wp.block ?_ | refine Wp.skip ?_ | refine Wp.ret ?_ | refine Wp.exit ?_ | refine Wp.label ?_ | refine Wp.condG ?_) | simp (disch := omega) only [↓RP, RQ, TS, TR, ↓reduceIte, Nat.reduceEqDiff, Nat.reduceLT, Nat.reduceLeDiff, Int.reduceLT, Int.reduceLE, Int.reduceEq, Int.reduceAdd, Int.reduceSub, Int.reduceNeg, Int.reduceToNat, Nat.reduceAdd, Nat.reduceMul, Nat.reduceSub, reduceCtorEq, RC, Int.cast_ofNat_Int, hn, g0, g3, hv.len]
  refine condW_split (fun h2 => ?_) (fun h2 => ?_)
  · have hkl : k < es.length := by omega
    have hpre : (k : Int) - 1 = ((k - 1 : Nat) : Int) := by omega
    repeat first | (with_reducible first | refine Wp.seq ?_ | refine Wp.reg ?_ | refine Wp.block ?_ | refine Wp.skip ?_ | refine Wp.ret ?_ | refine Wp.exit ?_ | refine Wp.label ?_ | refine Wp.condG ?_) | with_reducible refine Wp.drw hmix (by kernel_rfl) ?_ | simp (disch := omega) only [↓RP, RQ, TS, TR, ↓reduceIte, Nat.reduceEqDiff, Nat.reduceLT, Nat.reduceLeDiff, Int.reduceLT, Int.reduceLE, Int.reduceEq, Int.reduceAdd, Int.reduceSub, Int.reduceNeg, Int.reduceToNat, Nat.reduceAdd, Nat.reduceMul, Nat.reduceSub, reduceCtorEq, RC, Int.cast_ofNat_Int, hn, g0, g3, wrap_fit, hpre, hv.idx, hv.ldA (0, 0)]
    refine binW_eqlS48 (by simp (disch := omega) only [↓RP, RQ, TS, TR, ↓reduceIte, Nat.reduceEqDiff, Nat.reduceLT, Nat.reduceLeDiff, Int.reduceLT, Int.reduceLE, Int.reduceEq, Int.reduceAdd, Int.reduceSub, Int.reduceNeg, Int.reduceToNat, Nat.reduceAdd, Nat.reduceMul, Nat.reduceSub, reduceCtorEq, RC, Int.cast_ofNat_Int, hn]) (by simp (disch := omega) only [↓RP, RQ, TS, TR, ↓reduceIte, Nat.reduceEqDiff, Nat.reduceLT, Nat.reduceLeDiff, Int.reduceLT, Int.reduceLE, Int.reduceEq, Int.reduceAdd, Int.reduceSub, Int.reduceNeg, Int.reduceToNat, Nat.reduceAdd, Nat.reduceMul, Nat.reduceSub, reduceCtorEq, RC, Int.cast_ofNat_Int, hn]) ?_
    rw [beqE]
    repeat first | (with_reducible first | refine Wp.seq ?_ | refine Wp.reg ?_ | refine Wp.block ?_ | refine Wp.skip ?_ | refine Wp.ret ?_ | refine Wp.exit ?_ | refine Wp.label ?_ | refine Wp.condG ?_) | simp (disch := omega) only [↓RP, RQ, TS, TR, ↓reduceIte, Nat.reduceEqDiff, Nat.reduceLT, Nat.reduceLeDiff, Int.reduceLT, Int.reduceLE, Int.reduceEq, Int.reduceAdd, Int.reduceSub, Int.reduceNeg, Int.reduceToNat, Nat.reduceAdd, Nat.reduceMul, Nat.reduceSub, reduceCtorEq, RC, Int.cast_ofNat_Int, hn, g0, g3]
    refine condW_split (fun h3 => ?_) (fun h3 => ?_)
    · have hlen : (eg es).length = es.length * (1 + 1) := eg_length es
      have hpos : 0 < es.length := by omega
      have hdk := dd_all es k (by omega) hdis
      have hdk1 : dd es (k + 1) = es.take k := by rw [dd_succ, hdk, if_neg (by rintro (h4 | h4); omega; exact h4 h3), List.append_nil]
      have hrow : St Try.prog H0 H' (⟨v, 2, eg (dd es (k + 1) ++ es.drop k)⟩ :: os) := by rw [hdk1, List.take_append_drop]; exact hS
      have hdl : (dd es (k + 1)).length = k := by rw [hdk1, List.length_take]; omega
      repeat first | (with_reducible first | refine Wp.seq ?_ | refine Wp.reg ?_ | refine Wp.block ?_ | refine Wp.skip ?_ | refine Wp.ret ?_ | refine Wp.exit ?_ | refine Wp.label ?_ | refine Wp.condG ?_) | simp (disch := omega) only [↓RP, RQ, TS, TR, ↓reduceIte, Nat.reduceEqDiff, Nat.reduceLT, Nat.reduceLeDiff, Int.reduceLT, Int.reduceLE, Int.reduceEq, Int.reduceAdd, Int.reduceSub, Int.reduceNeg, Int.reduceToNat, Nat.reduceAdd, Nat.reduceMul, Nat.reduceSub, reduceCtorEq, RC, Int.cast_ofNat_Int, hn, g0, g3, RdAt.sliceL (size := 1) hv hlen]
      refine Wp.loopN (fun n l H' => l.length = 61 ∧ get l 0 = v ∧ get l 4 = subS v 2 k (es.length - k) ∧ ∃ k2 : Nat, 0 < k2 ∧ n + k + k2 = es.length ∧ get l 5 = I k2 ∧ get l 3 = I (dd es (k + k2)).length ∧ (dd es (k + k2)).length < k + k2 ∧
        St Try.prog H0 H' (⟨v, 2, eg (dd es (k + k2) ++ es.drop (dd es (k + k2)).length)⟩ :: os)) (es.length - k - 1) ?_ ?_
      · repeat first | (with_reducible first | refine Wp.seq ?_ | refine Wp.reg ?_ | refine Wp.block ?_ | refine Wp.skip ?_ | refine Wp.ret ?_ | refine Wp.exit ?_ | refine Wp.label ?_ | refine Wp.condG ?_) | simp (disch := omega) only [↓RP, RQ, TS, TR, ↓reduceIte, Nat.reduceEqDiff, Nat.reduceLT, Nat.reduceLeDiff, Int.reduceLT, Int.reduceLE, Int.reduceEq, Int.reduceAdd, Int.reduceSub, Int.reduceNeg, Int.reduceToNat, Nat.reduceAdd, Nat.reduceMul, Nat.reduceSub, reduceCtorEq, RC, Int.cast_ofNat_Int, hn, g0, g3]
        refine ⟨1, by omega, by omega, rfl, by rw [hdl], by omega, ?_⟩
        rw [hdl]
        exact hrow
      clear hn g0 g3 hS hrow hdk hdk1 hdl hdis hv
      rintro n l H' ⟨hn, g0, g4, k2, hk20, hk2, g5, g3, hlt, hS⟩
      have hsucc := dd_succ es (k + k2)
      generalize hD : dd es (k + k2) = D at g3 hlt hS hsucc
      have hrl : (D ++ es.drop D.length).length = es.length := by rw [List.length_append, List.length_drop]; omega
      have hv : Sl2 H' v _ _ (D ++ es.drop D.length) := hS.rd 0 rfl
      have hat : ∀ j, D.length ≤ j → (D ++ es.drop D.length).getD j (0, 0) = es.getD j (0, 0) := fun j hj => by
        rw [List.getD_eq_getElem?_getD, List.getElem?_append_right hj, List.getElem?_drop, List.getD_eq_getElem?_getD]
        congr 2; omega
      have hsub : Sl2 H' (subS v 2 k (es.length - k)) (fun e : Nat × Nat => I e.1) (fun e => I e.2) ((D ++ es.drop D.length).drop k) := by
        have h1 : RdAt H' (subS v 2 k (es.length - k)) 2 (((eg (D ++ es.drop D.length)).drop (k * 2)).take ((es.length - k) * 2)) := RdAt.sub hv k (es.length - k) (by
          show k * 2 + (es.length - k) * 2 ≤ (eg (D ++ es.drop D.length)).length
          rw [eg_length, hrl]; omega) (by
          intro e
          have h2 : (eg (D ++ es.drop D.length)).length = 0 := by rw [show eg (D ++ es.drop D.length) = [] from e]; rfl
          rw [eg_length, hrl] at h2; omega)
        have h3 : ((eg (D ++ es.drop D.length)).drop (k * 2)).take ((es.length - k) * 2) = eg ((D ++ es.drop D.length).drop k) := by
          rw [eg_drop]
          apply List.take_of_length_le
          rw [eg_length, List.length_drop, hrl]
          exact Nat.le_refl _
        rw [h3] at h1
        exact h1
      have hsl : ((D ++ es.drop D.length).drop k).length = es.length - k := by rw [List.length_drop, hrl]
      have hsat : ∀ j, D.length ≤ k + j → ((D ++ es.drop D.length).drop k).getD j (0, 0) = es.getD (k + j) (0, 0) := fun j hj => by rw [getD_drop]; exact hat _ hj
      have hbd : ((es.length - k : Nat) : Int) = (es.length : Int) - k := by omega
      repeat first | (with_reducible first | refine Wp.seq ?_ | refine Wp.reg ?_ | refine Wp.block ?_ | refine Wp.skip ?_ | refine Wp.ret ?_ | refine Wp.exit ?_ | refine Wp.label ?_ | refine Wp.condG ?_) | simp (disch := omega) only [↓RP, RQ, TS, TR, ↓reduceIte, Nat.reduceEqDiff, Nat.reduceLT, Nat.reduceLeDiff, Int.reduceLT, Int.reduceLE, Int.reduceEq, Int.reduceAdd, Int.reduceSub, Int.reduceNeg, Int.reduceToNat, Nat.reduceAdd, Nat.reduceMul, Nat.reduceSub, reduceCtorEq, RC, Int.cast_ofNat_Int, hn, g0, g3, g4, g5, hsub.len, hsl]
      refine condW_split (fun h4 => ?_) (fun h4 => ?_)
      · have hj : k + k2 < es.length := by omega
        have hpre2 : (k2 : Int) - 1 = ((k2 - 1 : Nat) : Int) := by omega
        have e1 := hsat k2 (by omega)
        have e2 := hsat (k2 - 1) (by omega)
        rw [show k + (k2 - 1) = k + k2 - 1 from by omega] at e2
        repeat first | (with_reducible first | refine Wp.seq ?_ | refine Wp.reg ?_ | refine Wp.block ?_ | refine Wp.skip ?_ | refine Wp.ret ?_ | refine Wp.exit ?_ | refine Wp.label ?_ | refine Wp.condG ?_) | with_reducible refine Wp.drw hmix (by kernel_rfl) ?_ | simp (disch := omega) only [↓RP, RQ, TS, TR, ↓reduceIte, Nat.reduceEqDiff, Nat.reduceLT, Nat.reduceLeDiff, Int.reduceLT, Int.reduceLE, Int.reduceEq, Int.reduceAdd, Int.reduceSub, Int.reduceNeg, Int.reduceToNat, Nat.reduceAdd, Nat.reduceMul, Nat.reduceSub, reduceCtorEq, RC, Int.cast_ofNat_Int, hn, g0, g3, g4, g5, wrap_fit, hpre2, hsub.idx, hsub.ldA (0, 0), e1, e2]
        refine binW_neqS (by simp (disch := omega) only [↓RP, RQ, TS, TR, ↓reduceIte, Nat.reduceEqDiff, Nat.reduceLT, Nat.reduceLeDiff, Int.reduceLT, Int.reduceLE, Int.reduceEq, Int.reduceAdd, Int.reduceSub, Int.reduceNeg, Int.reduceToNat, Nat.reduceAdd, Nat.reduceMul, Nat.reduceSub, reduceCtorEq, RC, Int.cast_ofNat_Int, hn]) (by simp (disch := omega) only [↓RP, RQ, TS, TR, ↓reduceIte, Nat.reduceEqDiff, Nat.reduceLT, Nat.reduceLeDiff, Int.reduceLT, Int.reduceLE, Int.reduceEq, Int.reduceAdd, Int.reduceSub, Int.reduceNeg, Int.reduceToNat, Nat.reduceAdd, Nat.reduceMul, Nat.reduceSub, reduceCtorEq, RC, Int.cast_ofNat_Int, hn]) ?_
        rw [beqE]
        repeat first | (with_reducible first | refine Wp.seq ?_ | refine Wp.reg ?_ | refine Wp.block ?_ | refine Wp.skip ?_ | refine Wp.ret ?_ | refine Wp.exit ?_ | refine Wp.label ?_ | refine Wp.condG ?_) | simp (disch := omega) only [↓RP, RQ, TS, TR, ↓reduceIte, Nat.reduceEqDiff, Nat.reduceLT, Nat.reduceLeDiff, Int.reduceLT, Int.reduceLE, Int.reduceEq, Int.reduceAdd, Int.reduceSub, Int.reduceNeg, Int.reduceToNat, Nat.reduceAdd, Nat.reduceMul, Nat.reduceSub, reduceCtorEq, RC, Int.cast_ofNat_Int, hn, g0, g3, g4, g5]
        by_cases h5 : es.getD (k + k2) (0, 0) = es.getD (k + k2 - 1) (0, 0)
        · rw [decide_eq_true h5, Bool.not_true]
          rw [if_neg (by rintro (h6 | h6); omega; exact h6 h5), List.append_nil] at hsucc
          repeat first | (with_reducible first | refine Wp.seq ?_ | refine Wp.reg ?_ | refine Wp.block ?_ | refine Wp.skip ?_ | refine Wp.ret ?_ | refine Wp.exit ?_ | refine Wp.label ?_ | refine Wp.condG ?_) | simp (disch := omega) only [↓RP, RQ, TS, TR, ↓reduceIte, Nat.reduceEqDiff, Nat.reduceLT, Nat.reduceLeDiff, Int.reduceLT, Int.reduceLE, Int.reduceEq, Int.reduceAdd, Int.reduceSub, Int.reduceNeg, Int.reduceToNat, Nat.reduceAdd, Nat.reduceMul, Nat.reduceSub, reduceCtorEq, RC, Int.cast_ofNat_Int, hn, g0, g3, g4, g5, wrap_fit]
          refine ⟨n - 1, by omega, k2 + 1, by omega, by omega, rfl, ?_⟩
          rw [← Nat.add_assoc, hsucc]
          exact ⟨rfl, by omega, hS⟩
        · rw [decide_eq_false h5, Bool.not_false]
          rw [if_pos (.inr h5)] at hsucc
          repeat first | (with_reducible first | refine Wp.seq ?_ | refine Wp.reg ?_ | refine Wp.block ?_ | refine Wp.skip ?_ | refine Wp.ret ?_ | refine Wp.exit ?_ | refine Wp.label ?_ | refine Wp.condG ?_) | simp (disch := omega) only [↓RP, RQ, TS, TR, ↓reduceIte, Nat.reduceEqDiff, Nat.reduceLT, Nat.reduceLeDiff, Int.reduceLT, Int.reduceLE, Int.reduceEq, Int.reduceAdd, Int.reduceSub, Int.reduceNeg, Int.reduceToNat, Nat.reduceAdd, Nat.reduceMul, Nat.reduceSub, reduceCtorEq, RC, Int.cast_ofNat_Int, hn, g0, g3, g4, g5, hsub.idx, hsub.ldA (0, 0), e1, hv.idx]
          refine hS.eStoreE (size := 1) 0 rfl [_, _] rfl rfl tS48 (by simp) (by rw [eg_length, hrl]; simp; omega) fun H3 hS => ?_
          simp only [List.nil_append, List.cons_append, List.append_nil, List.set_cons_zero, List.set_cons_succ, setMany_cons, setMany_nil, Nat.zero_add, Nat.mul_one, Nat.add_zero] at hS
          repeat first | (with_reducible first | refine Wp.seq ?_ | refine Wp.reg ?_ | refine Wp.block ?_ | refine Wp.skip ?_ | refine Wp.ret ?_ | refine Wp.exit ?_ | refine Wp.label ?_ | refine Wp.condG ?_) | simp (disch := omega) only [↓RP, RQ, TS, TR, ↓reduceIte, Nat.reduceEqDiff, Nat.reduceLT, Nat.reduceLeDiff, Int.reduceLT, Int.reduceLE, Int.reduceEq, Int.reduceAdd, Int.reduceSub, Int.reduceNeg, Int.reduceToNat, Nat.reduceAdd, Nat.reduceMul, Nat.reduceSub, reduceCtorEq, RC, Int.cast_ofNat_Int, hn, g0, g3, g4, g5, wrap_fit]
          refine ⟨n - 1, by omega, k2 + 1, by omega, by omega, rfl, ?_⟩
          rw [← Nat.add_assoc, hsucc]
          refine ⟨by simp, by simp; omega, ?_⟩
          have e3 : eg (D ++ [es.getD (k + k2) (0, 0)] ++ es.drop (D ++ [es.getD (k + k2) (0, 0)]).length) = ((eg (D ++ es.drop D.length)).set (D.length * 2) (I (es.getD (k + k2) (0, 0)).1)).set (D.length * 2 + 1) (I (es.getD (k + k2) (0, 0)).2) := by
            have hx : es.drop D.length = es.getD D.length (0, 0) :: es.drop (D.length + 1) := by
              rw [List.drop_eq_getElem_cons (by omega)]
              congr 1
              simp [List.getD_eq_getElem?_getD, show D.length < es.length from by omega]
            rw [hx, List.length_append, List.length_singleton, eg_append, eg_append, eg_append]
            have e4 : eg (es.getD D.length (0, 0) :: es.drop (D.length + 1)) = I (es.getD D.length (0, 0)).1 :: I (es.getD D.length (0, 0)).2 :: eg (es.drop (D.length + 1)) := rfl
            have e5 : eg [es.getD (k + k2) (0, 0)] = [I (es.getD (k + k2) (0, 0)).1, I (es.getD (k + k2) (0, 0)).2] := rfl
            have e6 : (eg D).length = D.length * 2 := eg_length D
            rw [e4, e5, List.set_append_right _ _ (by omega), List.set_append_right _ _ (by omega), e6, Nat.sub_self, Nat.add_sub_cancel_left]
            simp
          rw [e3]
          exact hS
      · have hke : k + k2 = es.length := by omega
        rw [hke] at hD
        have hcl : (eg (D ++ es.drop D.length)).length = es.length * (1 + 1) := by rw [eg_length, hrl]
        have hDn : D.length ≤ es.length := by omega
        repeat first | (with_reducible first | refine Wp.seq ?_ | refine Wp.reg ?_ | refine Wp.block ?_ | refine Wp.skip ?_ | refine Wp.ret ?_ | refine Wp.exit ?_ | refine Wp.label ?_ | refine Wp.condG ?_) | simp (disch := omega) only [↓RP, RQ, TS, TR, ↓reduceIte, Nat.reduceEqDiff, Nat.reduceLT, Nat.reduceLeDiff, Int.reduceLT, Int.reduceLE, Int.reduceEq, Int.reduceAdd, Int.reduceSub, Int.reduceNeg, Int.reduceToNat, Nat.reduceAdd, Nat.reduceMul, Nat.reduceSub, reduceCtorEq, RC, Int.cast_ofNat_Int, hn, g0, g3, g4, g5, RdAt.sliceL (size := 1) hv hcl]
        refine hS.eClear (size := 1) 0 rfl D.length (es.length - D.length) (by rw [hcl]; omega) (by
          intro e
          have h2 : (eg (D ++ es.drop D.length)).length = 0 := by rw [e]; rfl
          rw [eg_length, hrl] at h2; omega) tC25 fun z H3 hz hS => ?_
        simp only [List.nil_append, List.cons_append, List.append_nil, List.set_cons_zero, List.set_cons_succ, setMany_cons, setMany_nil, Nat.zero_add, Nat.mul_one, Nat.add_zero] at hS
        have e3 : setMany (eg (D ++ es.drop D.length)) (D.length * 2) z = eg D ++ z := by
          rw [eg_append, show D.length * 2 = (eg D).length from (eg_length D).symm, setMany_over z (eg D) (eg (es.drop D.length)) (by rw [eg_length, List.length_drop]; omega)]
          rw [List.drop_of_length_le (by rw [eg_length, List.length_drop]; omega), List.append_nil]
        rw [show D.length * (1 + 1) = D.length * 2 from rfl, e3] at hS
        have hw : RdAt H3 v (1 + 1) (eg D ++ z) := hS.rd 0 rfl
        have hwl : (eg D ++ z).length = es.length * (1 + 1) := by rw [List.length_append, eg_length, hz]; omega
        repeat first | (with_reducible first | refine Wp.seq ?_ | refine Wp.reg ?_ | refine Wp.block ?_ | refine Wp.skip ?_ | refine Wp.ret ?_ | refine Wp.exit ?_ | refine Wp.label ?_ | refine Wp.condG ?_) | simp (disch := omega) only [↓RP, RQ, TS, TR, ↓reduceIte, Nat.reduceEqDiff, Nat.reduceLT, Nat.reduceLeDiff, Int.reduceLT, Int.reduceLE, Int.reduceEq, Int.reduceAdd, Int.reduceSub, Int.reduceNeg, Int.reduceToNat, Nat.reduceAdd, Nat.reduceMul, Nat.reduceSub, reduceCtorEq, RC, Int.cast_ofNat_Int, hn, g0, g3, g4, g5, hw.sliceH hwl]
        refine ⟨z, fun H2 h2 => ?_, by rw [hD]; exact hS⟩
        rw [hD] at h2 ⊢
        have h5 := RdAt.sub h2 0 D.length (by rw [hwl]; omega) (by
          intro e
          rw [e] at hwl
          simp at hwl; omega)
        rw [Nat.zero_mul, List.drop_zero, show D.length * 2 = (eg D).length from (eg_length D).symm, List.take_left' rfl] at h5
        exact h5
    · have hne : es.getD k (0, 0) ≠ es.getD (k - 1) (0, 0) := h3
      repeat first | (with_reducible first | refine Wp.seq ?_ | refine Wp.reg ?_ | refine Wp.block ?_ | refine Wp.skip ?_ | refine Wp.ret ?_ | refine Wp.exit ?_ | refine Wp.label ?_ | refine Wp.condG ?_) | simp (disch := omega) only [↓RP, RQ, TS, TR, ↓reduceIte, Nat.reduceEqDiff, Nat.reduceLT, Nat.reduceLeDiff, Int.reduceLT, Int.reduceLE, Int.reduceEq, Int.reduceAdd, Int.reduceSub, Int.reduceNeg, Int.reduceToNat, Nat.reduceAdd, Nat.reduceMul, Nat.reduceSub, reduceCtorEq, RC, Int.cast_ofNat_Int, hn, g0, g3, wrap_fit]
      refine ⟨n - 1, by omega, k + 1, by omega, by omega, rfl, fun j h4 h5 => ?_⟩
      by_cases e : j = k
      · subst e; exact hne
      · exact hdis j h4 (by omega)
  · have hke : k = es.length := by omega
    subst hke
    have hd := dd_all es es.length (Nat.le_refl _) hdis
    rw [List.take_length] at hd
    have hw := hS.rd 0 rfl
    repeat first | (with_reducible first | refine Wp.seq ?_ | refine Wp.reg ?_ | refine Wp.block ?_ | refine Wp.skip ?_ | refine Wp.ret ?_ | refine Wp.exit ?_ | refine Wp.label ?_ | refine Wp.condG ?_) | simp (disch := omega) only [↓RP, RQ, TS, TR, ↓reduceIte, Nat.reduceEqDiff, Nat.reduceLT, Nat.reduceLeDiff, Int.reduceLT, Int.reduceLE, Int.reduceEq, Int.reduceAdd, Int.reduceSub, Int.reduceNeg, Int.reduceToNat, Nat.reduceAdd, Nat.reduceMul, Nat.reduceSub, reduceCtorEq, RC, Int.cast_ofNat_Int, hn, g0, g3, hw.noTuple]
    exact ⟨[], by rw [hd, List.append_nil]; exact fun _ h => h, by rw [hd, List.append_nil]; exact hS⟩
end Go.Ds
/-
  Contracts: Check, with, for any graph; the law's own check.
-/
namespace Go.Ds
open Go.Proofs Go.Plain
variable {H : Heap}

/-- A slice of edges by any numbers. -/
def EgZ (H : Heap) (v : Value) (es : List (Int × Int)) : Prop := Sl2 H v (fun e => I e.1) (fun e => I e.2) es

def inN (N x : Int) : Bool := decide (0 ≤ x ∧ x < N)
def okE (N : Int) (e : Int × Int) : Bool := inN N e.1 && inN N e.2
/-- The error of a graph. -/
def chk (N : Int) (es : List (Int × Int)) : Int := if N < 0 then 3 else if 200 < N ∨ 1000 < es.length then 4 else if es.all (okE N) = true then 0 else 10

theorem checkZ_ok (N : Int) (v : Value) (es : List (Int × Int)) (hv : EgZ H v es) (he : es.length < 1000000) : Fn Try.prog 35 [.agg #[I N, v]] H fun r H' => r = I (chk N es) ∧ St Try.prog H H' [] := by
  refine Fn.of_wp (fn := Try.f35) rfl rfl (by kernel_rfl) fun l hl => ?_
  have hn : l.length = 39 := by rw [hl]; rfl
  have g0 : get l 0 = .agg #[I N, v] := by rw [hl]; rfl
  clear hl
  repeat first | (with_reducible first | refine Wp.seq ?_ | refine Wp.reg ?_ | refine Wp.block ?_ | refine Wp.skip ?_ | refine Wp.ret ?_ | refine Wp.exit ?_ | refine Wp.label ?_ | refine Wp.condG ?_) | simp (disch := omega) only [↓RP, RQ, TS, TR, ↓reduceIte, Nat.reduceEqDiff, Nat.reduceLT, Nat.reduceLeDiff, Int.reduceLT, Int.reduceLE, Int.reduceEq, Int.reduceAdd, Int.reduceSub, Int.reduceNeg, Int.reduceToNat, Nat.reduceAdd, Nat.reduceMul, Nat.reduceSub, reduceCtorEq, RC, Int.cast_ofNat_Int, hn, g0]
  refine (St.refl _ H).eNew 2 [I N, v] rfl rfl (by simp [RdAt.one hv]; rfl) tS27 fun A H1 hS => ?_
  repeat first | (with_reducible first | refine Wp.seq ?_ | refine Wp.reg ?_ | refine Wp.block ?_ | refine Wp.skip ?_ | refine Wp.ret ?_ | refine Wp.exit ?_ | refine Wp.label ?_ | refine Wp.condG ?_) | simp (disch := omega) only [↓RP, RQ, TS, TR, ↓reduceIte, Nat.reduceEqDiff, Nat.reduceLT, Nat.reduceLeDiff, Int.reduceLT, Int.reduceLE, Int.reduceEq, Int.reduceAdd, Int.reduceSub, Int.reduceNeg, Int.reduceToNat, Nat.reduceAdd, Nat.reduceMul, Nat.reduceSub, reduceCtorEq, RC, Int.cast_ofNat_Int, hn, g0, hS.ld 0 rfl]
  refine condW_split (fun h => ?_) (fun h => ?_)
  · repeat first | (with_reducible first | refine Wp.seq ?_ | refine Wp.reg ?_ | refine Wp.block ?_ | refine Wp.skip ?_ | refine Wp.ret ?_ | refine Wp.exit ?_ | refine Wp.label ?_ | refine Wp.condG ?_) | simp (disch := omega) only [↓RP, RQ, TS, TR, ↓reduceIte, Nat.reduceEqDiff, Nat.reduceLT, Nat.reduceLeDiff, Int.reduceLT, Int.reduceLE, Int.reduceEq, Int.reduceAdd, Int.reduceSub, Int.reduceNeg, Int.reduceToNat, Nat.reduceAdd, Nat.reduceMul, Nat.reduceSub, reduceCtorEq, RC, Int.cast_ofNat_Int, hn, g0]
    exact ⟨by unfold chk; rw [if_pos h], hS.forget⟩
  have hv1 : Sl2 H1 v _ _ es := hS.base hv
  repeat first | (with_reducible first | refine Wp.seq ?_ | refine Wp.reg ?_ | refine Wp.block ?_ | refine Wp.skip ?_ | refine Wp.ret ?_ | refine Wp.exit ?_ | refine Wp.label ?_ | refine Wp.condG ?_) | simp (disch := omega) only [↓RP, RQ, TS, TR, ↓reduceIte, Nat.reduceEqDiff, Nat.reduceLT, Nat.reduceLeDiff, Int.reduceLT, Int.reduceLE, Int.reduceEq, Int.reduceAdd, Int.reduceSub, Int.reduceNeg, Int.reduceToNat, Nat.reduceAdd, Nat.reduceMul, Nat.reduceSub, reduceCtorEq, RC, Int.cast_ofNat_Int, hn, g0, hS.ld 0 rfl]
  refine letG_split' (fun h2 => ?_) (fun h2 => ?_)
  · repeat first | (with_reducible first | refine Wp.seq ?_ | refine Wp.reg ?_ | refine Wp.block ?_ | refine Wp.skip ?_ | refine Wp.ret ?_ | refine Wp.exit ?_ | refine Wp.label ?_ | refine Wp.condG ?_) | simp (disch := omega) only [↓RP, RQ, TS, TR, ↓reduceIte, Nat.reduceEqDiff, Nat.reduceLT, Nat.reduceLeDiff, Int.reduceLT, Int.reduceLE, Int.reduceEq, Int.reduceAdd, Int.reduceSub, Int.reduceNeg, Int.reduceToNat, Nat.reduceAdd, Nat.reduceMul, Nat.reduceSub, reduceCtorEq, RC, Int.cast_ofNat_Int, hn, g0, h2]
    exact ⟨by unfold chk; rw [if_neg h, if_pos (.inl h2)], hS.forget⟩
  repeat first | (with_reducible first | refine Wp.seq ?_ | refine Wp.reg ?_ | refine Wp.block ?_ | refine Wp.skip ?_ | refine Wp.ret ?_ | refine Wp.exit ?_ | refine Wp.label ?_ | refine Wp.condG ?_) | simp (disch := omega) only [↓RP, RQ, TS, TR, ↓reduceIte, Nat.reduceEqDiff, Nat.reduceLT, Nat.reduceLeDiff, Int.reduceLT, Int.reduceLE, Int.reduceEq, Int.reduceAdd, Int.reduceSub, Int.reduceNeg, Int.reduceToNat, Nat.reduceAdd, Nat.reduceMul, Nat.reduceSub, reduceCtorEq, RC, Int.cast_ofNat_Int, hn, g0, hS.ld 0 rfl, hv1.len, h2]
  refine condW_split (fun h3 => ?_) (fun h3 => ?_)
  · repeat first | (with_reducible first | refine Wp.seq ?_ | refine Wp.reg ?_ | refine Wp.block ?_ | refine Wp.skip ?_ | refine Wp.ret ?_ | refine Wp.exit ?_ | refine Wp.label ?_ | refine Wp.condG ?_) | simp (disch := omega) only [↓RP, RQ, TS, TR, ↓reduceIte, Nat.reduceEqDiff, Nat.reduceLT, Nat.reduceLeDiff, Int.reduceLT, Int.reduceLE, Int.reduceEq, Int.reduceAdd, Int.reduceSub, Int.reduceNeg, Int.reduceToNat, Nat.reduceAdd, Nat.reduceMul, Nat.reduceSub, reduceCtorEq, RC, Int.cast_ofNat_Int, hn, g0]
    exact ⟨by unfold chk; rw [if_neg h, if_pos (.inr (by omega))], hS.forget⟩
  repeat first | (with_reducible first | refine Wp.seq ?_ | refine Wp.reg ?_ | refine Wp.block ?_ | refine Wp.skip ?_ | refine Wp.ret ?_ | refine Wp.exit ?_ | refine Wp.label ?_ | refine Wp.condG ?_) | simp (disch := omega) only [↓RP, RQ, TS, TR, ↓reduceIte, Nat.reduceEqDiff, Nat.reduceLT, Nat.reduceLeDiff, Int.reduceLT, Int.reduceLE, Int.reduceEq, Int.reduceAdd, Int.reduceSub, Int.reduceNeg, Int.reduceToNat, Nat.reduceAdd, Nat.reduceMul, Nat.reduceSub, reduceCtorEq, RC, Int.cast_ofNat_Int, hn, g0, hS.ld 0 rfl, hv1.len]
  have hch : chk N es = if es.all (okE N) = true then 0 else 10 := by unfold chk; rw [if_neg h, if_neg (by omega)]
  refine Wp.loopN (fun n l H' => St Try.prog H H' [⟨ptr A 0 2, 0, [I N, v]⟩] ∧ l.length = 39 ∧ get l 1 = ptr A 0 2 ∧ get l 20 = v ∧ get l 21 = I es.length ∧ ∃ i : Nat, n + i = es.length ∧ get l 22 = I i ∧ ∀ j, j < i → okE N (es.getD j (0, 0)) = true) es.length ?_ ?_
  · simp (disch := omega) only [↓RP, RQ, TS, TR, ↓reduceIte, Nat.reduceEqDiff, Nat.reduceLT, Nat.reduceLeDiff, Int.reduceLT, Int.reduceLE, Int.reduceEq, Int.reduceAdd, Int.reduceSub, Int.reduceNeg, Int.reduceToNat, Nat.reduceAdd, Nat.reduceMul, Nat.reduceSub, reduceCtorEq, RC, Int.cast_ofNat_Int, hn]
    exact ⟨hS, 0, rfl, rfl, fun j hj => absurd hj (Nat.not_lt_zero _)⟩
  clear hS hn g0 h h2 h3 hv1
  rintro n l H' ⟨hS, hn, g1, g20, g21, i, hi, g22, hok⟩
  have hv1 : Sl2 H' v _ _ es := hS.base hv
  repeat first | (with_reducible first | refine Wp.seq ?_ | refine Wp.reg ?_ | refine Wp.block ?_ | refine Wp.skip ?_ | refine Wp.ret ?_ | refine Wp.exit ?_ | refine Wp.label ?_ | refine Wp.condG ?_) | simp (disch := omega) only [↓RP, RQ, TS, TR, ↓reduceIte, Nat.reduceEqDiff, Nat.reduceLT, Nat.reduceLeDiff, Int.reduceLT, Int.reduceLE, Int.reduceEq, Int.reduceAdd, Int.reduceSub, Int.reduceNeg, Int.reduceToNat, Nat.reduceAdd, Nat.reduceMul, Nat.reduceSub, reduceCtorEq, RC, Int.cast_ofNat_Int, hn, g1, g20, g21, g22]
  refine condW_split (fun h3 => ?_) (fun h3 => ?_)
  · have hil : i < es.length := by omega
    repeat first | (with_reducible first | refine Wp.seq ?_ | refine Wp.reg ?_ | refine Wp.block ?_ | refine Wp.skip ?_ | refine Wp.ret ?_ | refine Wp.exit ?_ | refine Wp.label ?_ | refine Wp.condG ?_) | simp (disch := omega) only [↓RP, RQ, TS, TR, ↓reduceIte, Nat.reduceEqDiff, Nat.reduceLT, Nat.reduceLeDiff, Int.reduceLT, Int.reduceLE, Int.reduceEq, Int.reduceAdd, Int.reduceSub, Int.reduceNeg, Int.reduceToNat, Nat.reduceAdd, Nat.reduceMul, Nat.reduceSub, reduceCtorEq, RC, Int.cast_ofNat_Int, hn, g1, g20, g21, g22, hv1.idx, hv1.ldA (0, 0)]
    refine hS.eNew 2 [I 0, I 0] rfl rfl rfl tS48 fun B H1 hS => ?_
    repeat first | (with_reducible first | refine Wp.seq ?_ | refine Wp.reg ?_ | refine Wp.block ?_ | refine Wp.skip ?_ | refine Wp.ret ?_ | refine Wp.exit ?_ | refine Wp.label ?_ | refine Wp.condG ?_) | simp (disch := omega) only [↓RP, RQ, TS, TR, ↓reduceIte, Nat.reduceEqDiff, Nat.reduceLT, Nat.reduceLeDiff, Int.reduceLT, Int.reduceLE, Int.reduceEq, Int.reduceAdd, Int.reduceSub, Int.reduceNeg, Int.reduceToNat, Nat.reduceAdd, Nat.reduceMul, Nat.reduceSub, reduceCtorEq, RC, Int.cast_ofNat_Int, hn, g1, g20, g21, g22]
    refine hS.eStore 1 rfl [_, _] rfl rfl tS48 (by simp) fun H2 hS => ?_
    repeat first | (with_reducible first | refine Wp.seq ?_ | refine Wp.reg ?_ | refine Wp.block ?_ | refine Wp.skip ?_ | refine Wp.ret ?_ | refine Wp.exit ?_ | refine Wp.label ?_ | refine Wp.condG ?_) | simp (disch := omega) only [↓RP, RQ, TS, TR, ↓reduceIte, Nat.reduceEqDiff, Nat.reduceLT, Nat.reduceLeDiff, Int.reduceLT, Int.reduceLE, Int.reduceEq, Int.reduceAdd, Int.reduceSub, Int.reduceNeg, Int.reduceToNat, Nat.reduceAdd, Nat.reduceMul, Nat.reduceSub, reduceCtorEq, RC, Int.cast_ofNat_Int, hn, g1, g20, g21, g22, hS.ldA 0 rfl, hS.ld 0 rfl, hS.ld 1 rfl]
    have hbad : okE N (es.getD i (0, 0)) = false → chk N es = 10 := fun hb => by
      rw [hch, if_neg]
      intro ha
      rw [List.all_eq_true] at ha
      have := ha _ (getD_mem (0, 0) hil)
      rw [hb] at this
      cases this
    refine callFW_of (has_ok N _ v (RdAt.one hv1)) ?_
    rintro r H3 ⟨rfl, hS3⟩
    have hS := hS.trans hS3
    cases h1 : inN N (es.getD i (0, 0)).1 with
    | false =>
      have d1 : decide (0 ≤ (es.getD i (0, 0)).1 ∧ (es.getD i (0, 0)).1 < N) = false := h1
      repeat first | (with_reducible first | refine Wp.seq ?_ | refine Wp.reg ?_ | refine Wp.block ?_ | refine Wp.skip ?_ | refine Wp.ret ?_ | refine Wp.exit ?_ | refine Wp.label ?_ | refine Wp.condG ?_) | simp (disch := omega) only [↓RP, RQ, TS, TR, ↓reduceIte, Nat.reduceEqDiff, Nat.reduceLT, Nat.reduceLeDiff, Int.reduceLT, Int.reduceLE, Int.reduceEq, Int.reduceAdd, Int.reduceSub, Int.reduceNeg, Int.reduceToNat, Nat.reduceAdd, Nat.reduceMul, Nat.reduceSub, reduceCtorEq, RC, Int.cast_ofNat_Int, hn, g1, g20, g21, g22, d1]
      exact ⟨by rw [hbad (by unfold okE; rw [h1]; rfl)], hS.forget⟩
    | true =>
      have d1 : decide (0 ≤ (es.getD i (0, 0)).1 ∧ (es.getD i (0, 0)).1 < N) = true := h1
      repeat first | (with_reducible first | refine Wp.seq ?_ | refine Wp.reg ?_ | refine Wp.block ?_ | refine Wp.skip ?_ | refine Wp.ret ?_ | refine Wp.exit ?_ | refine Wp.label ?_ | refine Wp.condG ?_) | simp (disch := omega) only [↓RP, RQ, TS, TR, ↓reduceIte, Nat.reduceEqDiff, Nat.reduceLT, Nat.reduceLeDiff, Int.reduceLT, Int.reduceLE, Int.reduceEq, Int.reduceAdd, Int.reduceSub, Int.reduceNeg, Int.reduceToNat, Nat.reduceAdd, Nat.reduceMul, Nat.reduceSub, reduceCtorEq, RC, Int.cast_ofNat_Int, hn, g1, g20, g21, g22, d1, hS.ldA 0 rfl, hS.ld 0 rfl, hS.ld 1 rfl]
      refine callFW_of (has_ok N _ v (RdAt.one hv1)) ?_
      rintro r H4 ⟨rfl, hS4⟩
      have hS := hS.trans hS4
      cases h2 : inN N (es.getD i (0, 0)).2 with
      | false =>
        have d2 : decide (0 ≤ (es.getD i (0, 0)).2 ∧ (es.getD i (0, 0)).2 < N) = false := h2
        repeat first | (with_reducible first | refine Wp.seq ?_ | refine Wp.reg ?_ | refine Wp.block ?_ | refine Wp.skip ?_ | refine Wp.ret ?_ | refine Wp.exit ?_ | refine Wp.label ?_ | refine Wp.condG ?_) | simp (disch := omega) only [↓RP, RQ, TS, TR, ↓reduceIte, Nat.reduceEqDiff, Nat.reduceLT, Nat.reduceLeDiff, Int.reduceLT, Int.reduceLE, Int.reduceEq, Int.reduceAdd, Int.reduceSub, Int.reduceNeg, Int.reduceToNat, Nat.reduceAdd, Nat.reduceMul, Nat.reduceSub, reduceCtorEq, RC, Int.cast_ofNat_Int, hn, g1, g20, g21, g22, d2]
        exact ⟨by rw [hbad (by unfold okE; rw [h1, h2]; rfl)], hS.forget⟩
      | true =>
        have d2 : decide (0 ≤ (es.getD i (0, 0)).2 ∧ (es.getD i (0, 0)).2 < N) = true := h2
        repeat first | (with_reducible first | refine Wp.seq ?_ | refine Wp.reg ?_ | refine Wp.block ?_ | refine Wp.skip ?_ | refine Wp.ret ?_ | refine Wp.exit ?_ | refine Wp.label ?_ | refine Wp.condG ?_) | simp (disch := omega) only [↓RP, RQ, TS, TR, ↓reduceIte, Nat.reduceEqDiff, Nat.reduceLT, Nat.reduceLeDiff, Int.reduceLT, Int.reduceLE, Int.reduceEq, Int.reduceAdd, Int.reduceSub, Int.reduceNeg, Int.reduceToNat, Nat.reduceAdd, Nat.reduceMul, Nat.reduceSub, reduceCtorEq, RC, Int.cast_ofNat_Int, hn, g1, g20, g21, g22, d2, wrap_fit]
        refine ⟨n - 1, by omega, hS.sub (by simp), i + 1, by omega, rfl, fun j hj => ?_⟩
        by_cases e : j = i
        · subst e; unfold okE; rw [h1, h2]; rfl
        · exact hok j (by omega)
  · repeat first | (with_reducible first | refine Wp.seq ?_ | refine Wp.reg ?_ | refine Wp.block ?_ | refine Wp.skip ?_ | refine Wp.ret ?_ | refine Wp.exit ?_ | refine Wp.label ?_ | refine Wp.condG ?_) | simp (disch := omega) only [↓RP, RQ, TS, TR, ↓reduceIte, Nat.reduceEqDiff, Nat.reduceLT, Nat.reduceLeDiff, Int.reduceLT, Int.reduceLE, Int.reduceEq, Int.reduceAdd, Int.reduceSub, Int.reduceNeg, Int.reduceToNat, Nat.reduceAdd, Nat.reduceMul, Nat.reduceSub, reduceCtorEq, RC, Int.cast_ofNat_Int, hn]
    refine ⟨?_, hS.forget⟩
    rw [hch, if_pos]
    rw [List.all_eq_true]
    intro x hx
    obtain ⟨j, hj, rfl⟩ := List.mem_iff_getElem.1 hx
    have := hok j (by omega)
    rwa [List.getD_eq_getElem?_getD, List.getElem?_eq_getElem hj] at this

/-- What a node that there is not adds. -/
def chk2 (N : Int) (es : List (Int × Int)) (xs : List Int) : Int := if chk N es ≠ 0 then chk N es else if xs.all (inN N) = true then 0 else 10

theorem withZ_ok (N : Int) (v : Value) (es : List (Int × Int)) (hv : EgZ H v es) (he : es.length < 1000000) (w : Value) (xs : List Int) (hw : Sl1 H w (.int .i64) xs) (hx : xs.length < 1000) :
    Fn Try.prog 37 [.agg #[I N, v], w] H fun r H' => r = I (chk2 N es xs) ∧ St Try.prog H H' [] := by
  refine Fn.of_wp (fn := Try.f37) rfl rfl (by kernel_rfl) fun l hl => ?_
  have hn : l.length = 15 := by rw [hl]; rfl
  have g0 : get l 0 = .agg #[I N, v] := by rw [hl]; rfl
  have g1 : get l 1 = w := by rw [hl]; rfl
  clear hl
  repeat first | (with_reducible first | refine Wp.seq ?_ | refine Wp.reg ?_ | refine Wp.block ?_ | refine Wp.skip ?_ | refine Wp.ret ?_ | refine Wp.exit ?_ | refine Wp.label ?_ | refine Wp.condG ?_) | simp (disch := omega) only [↓RP, RQ, TS, TR, ↓reduceIte, Nat.reduceEqDiff, Nat.reduceLT, Nat.reduceLeDiff, Int.reduceLT, Int.reduceLE, Int.reduceEq, Int.reduceAdd, Int.reduceSub, Int.reduceNeg, Int.reduceToNat, Nat.reduceAdd, Nat.reduceMul, Nat.reduceSub, reduceCtorEq, RC, Int.cast_ofNat_Int, hn, g0, g1]
  refine (St.refl _ H).eNew 2 [I N, v] rfl rfl (by simp [RdAt.one hv]; rfl) tS27 fun A H1 hS => ?_
  repeat first | (with_reducible first | refine Wp.seq ?_ | refine Wp.reg ?_ | refine Wp.block ?_ | refine Wp.skip ?_ | refine Wp.ret ?_ | refine Wp.exit ?_ | refine Wp.label ?_ | refine Wp.condG ?_) | simp (disch := omega) only [↓RP, RQ, TS, TR, ↓reduceIte, Nat.reduceEqDiff, Nat.reduceLT, Nat.reduceLeDiff, Int.reduceLT, Int.reduceLE, Int.reduceEq, Int.reduceAdd, Int.reduceSub, Int.reduceNeg, Int.reduceToNat, Nat.reduceAdd, Nat.reduceMul, Nat.reduceSub, reduceCtorEq, RC, Int.cast_ofNat_Int, hn, g0, g1, hS.ldA 0 rfl]
  refine callFW_of (checkZ_ok N v es (hS.base hv) he) ?_
  rintro r H2 ⟨rfl, hS2⟩
  have hS := hS.trans hS2
  repeat first | (with_reducible first | refine Wp.seq ?_ | refine Wp.reg ?_ | refine Wp.block ?_ | refine Wp.skip ?_ | refine Wp.ret ?_ | refine Wp.exit ?_ | refine Wp.label ?_ | refine Wp.condG ?_) | simp (disch := omega) only [↓RP, RQ, TS, TR, ↓reduceIte, Nat.reduceEqDiff, Nat.reduceLT, Nat.reduceLeDiff, Int.reduceLT, Int.reduceLE, Int.reduceEq, Int.reduceAdd, Int.reduceSub, Int.reduceNeg, Int.reduceToNat, Nat.reduceAdd, Nat.reduceMul, Nat.reduceSub, reduceCtorEq, RC, Int.cast_ofNat_Int, hn, g0, g1]
  refine condW_split (fun h => ?_) (fun h => ?_)
  · repeat first | (with_reducible first | refine Wp.seq ?_ | refine Wp.reg ?_ | refine Wp.block ?_ | refine Wp.skip ?_ | refine Wp.ret ?_ | refine Wp.exit ?_ | refine Wp.label ?_ | refine Wp.condG ?_) | simp (disch := omega) only [↓RP, RQ, TS, TR, ↓reduceIte, Nat.reduceEqDiff, Nat.reduceLT, Nat.reduceLeDiff, Int.reduceLT, Int.reduceLE, Int.reduceEq, Int.reduceAdd, Int.reduceSub, Int.reduceNeg, Int.reduceToNat, Nat.reduceAdd, Nat.reduceMul, Nat.reduceSub, reduceCtorEq, RC, Int.cast_ofNat_Int, hn, g0, g1]
    exact ⟨by unfold chk2; rw [if_pos h], hS.forget⟩
  repeat first | (with_reducible first | refine Wp.seq ?_ | refine Wp.reg ?_ | refine Wp.block ?_ | refine Wp.skip ?_ | refine Wp.ret ?_ | refine Wp.exit ?_ | refine Wp.label ?_ | refine Wp.condG ?_) | simp (disch := omega) only [↓RP, RQ, TS, TR, ↓reduceIte, Nat.reduceEqDiff, Nat.reduceLT, Nat.reduceLeDiff, Int.reduceLT, Int.reduceLE, Int.reduceEq, Int.reduceAdd, Int.reduceSub, Int.reduceNeg, Int.reduceToNat, Nat.reduceAdd, Nat.reduceMul, Nat.reduceSub, reduceCtorEq, RC, Int.cast_ofNat_Int, hn, g0, g1, hS.ldA 0 rfl]
  refine callFW_of (containsFunc_ok w _ (fun x => !decide (0 ≤ x ∧ x < N)) xs (hS.base hw) ?_ (by omega)) ?_
  · intro H3 hS3 x hx
    refine callW_fn ((with1_ok N x v (RdAt.one hv) A ?_).mono fun r H4 h => h)
    exact (hS.var 0 rfl).keep hS3.keep
  rintro r H3 ⟨rfl, hS3⟩
  have hS := hS.trans hS3
  have hf : (xs.any fun x : Int => !decide (0 ≤ x ∧ x < N)) = !(xs.all (inN N)) := by
    rw [List.all_eq_not_any_not, Bool.not_not]
    rfl
  have hch : chk2 N es xs = if xs.all (inN N) = true then 0 else 10 := by unfold chk2; rw [if_neg h]
  rw [hf]
  cases hb : xs.all (inN N) with
  | true =>
    rw [hb, if_pos rfl] at hch
    repeat first | (with_reducible first | refine Wp.seq ?_ | refine Wp.reg ?_ | refine Wp.block ?_ | refine Wp.skip ?_ | refine Wp.ret ?_ | refine Wp.exit ?_ | refine Wp.label ?_ | refine Wp.condG ?_) | simp (disch := omega) only [↓RP, RQ, TS, TR, ↓reduceIte, Nat.reduceEqDiff, Nat.reduceLT, Nat.reduceLeDiff, Int.reduceLT, Int.reduceLE, Int.reduceEq, Int.reduceAdd, Int.reduceSub, Int.reduceNeg, Int.reduceToNat, Nat.reduceAdd, Nat.reduceMul, Nat.reduceSub, reduceCtorEq, RC, Int.cast_ofNat_Int, hn, g0, g1]
    exact ⟨by rw [hch], hS.forget⟩
  | false =>
    rw [hb, if_neg (by decide)] at hch
    repeat first | (with_reducible first | refine Wp.seq ?_ | refine Wp.reg ?_ | refine Wp.block ?_ | refine Wp.skip ?_ | refine Wp.ret ?_ | refine Wp.exit ?_ | refine Wp.label ?_ | refine Wp.condG ?_) | simp (disch := omega) only [↓RP, RQ, TS, TR, ↓reduceIte, Nat.reduceEqDiff, Nat.reduceLT, Nat.reduceLeDiff, Int.reduceLT, Int.reduceLE, Int.reduceEq, Int.reduceAdd, Int.reduceSub, Int.reduceNeg, Int.reduceToNat, Nat.reduceAdd, Nat.reduceMul, Nat.reduceSub, reduceCtorEq, RC, Int.cast_ofNat_Int, hn, g0, g1]
    exact ⟨by rw [hch], hS.forget⟩

theorem lawCheck_ok (N : Int) (v : Value) (es : List (Int × Int)) (hv : EgZ H v es) (he : es.length < 1000000) : Fn Try.prog 34 [.agg #[I N, v]] H fun r H' => r = I (chk N es) ∧ St Try.prog H H' [] := by
  refine Fn.of_wp (fn := Try.f34) rfl rfl (by kernel_rfl) fun l hl => ?_
  have hn : l.length = 51 := by rw [hl]; rfl
  have g0 : get l 0 = .agg #[I N, v] := by rw [hl]; rfl
  clear hl
  repeat first | (with_reducible first | refine Wp.seq ?_ | refine Wp.reg ?_ | refine Wp.block ?_ | refine Wp.skip ?_ | refine Wp.ret ?_ | refine Wp.exit ?_ | refine Wp.label ?_ | refine Wp.condG ?_) | simp (disch := omega) only [↓RP, RQ, TS, TR, ↓reduceIte, Nat.reduceEqDiff, Nat.reduceLT, Nat.reduceLeDiff, Int.reduceLT, Int.reduceLE, Int.reduceEq, Int.reduceAdd, Int.reduceSub, Int.reduceNeg, Int.reduceToNat, Nat.reduceAdd, Nat.reduceMul, Nat.reduceSub, reduceCtorEq, RC, Int.cast_ofNat_Int, hn, g0]
  refine (St.refl _ H).eNew 2 [I N, v] rfl rfl (by simp [RdAt.one hv]; rfl) tS27 fun A H1 hS => ?_
  repeat first | (with_reducible first | refine Wp.seq ?_ | refine Wp.reg ?_ | refine Wp.block ?_ | refine Wp.skip ?_ | refine Wp.ret ?_ | refine Wp.exit ?_ | refine Wp.label ?_ | refine Wp.condG ?_) | simp (disch := omega) only [↓RP, RQ, TS, TR, ↓reduceIte, Nat.reduceEqDiff, Nat.reduceLT, Nat.reduceLeDiff, Int.reduceLT, Int.reduceLE, Int.reduceEq, Int.reduceAdd, Int.reduceSub, Int.reduceNeg, Int.reduceToNat, Nat.reduceAdd, Nat.reduceMul, Nat.reduceSub, reduceCtorEq, RC, Int.cast_ofNat_Int, hn, g0, hS.ld 0 rfl]
  refine condW_split (fun h => ?_) (fun h => ?_)
  · repeat first | (with_reducible first | refine Wp.seq ?_ | refine Wp.reg ?_ | refine Wp.block ?_ | refine Wp.skip ?_ | refine Wp.ret ?_ | refine Wp.exit ?_ | refine Wp.label ?_ | refine Wp.condG ?_) | simp (disch := omega) only [↓RP, RQ, TS, TR, ↓reduceIte, Nat.reduceEqDiff, Nat.reduceLT, Nat.reduceLeDiff, Int.reduceLT, Int.reduceLE, Int.reduceEq, Int.reduceAdd, Int.reduceSub, Int.reduceNeg, Int.reduceToNat, Nat.reduceAdd, Nat.reduceMul, Nat.reduceSub, reduceCtorEq, RC, Int.cast_ofNat_Int, hn, g0]
    exact ⟨by unfold chk; rw [if_pos h], hS.forget⟩
  have hv1 : Sl2 H1 v _ _ es := hS.base hv
  repeat first | (with_reducible first | refine Wp.seq ?_ | refine Wp.reg ?_ | refine Wp.block ?_ | refine Wp.skip ?_ | refine Wp.ret ?_ | refine Wp.exit ?_ | refine Wp.label ?_ | refine Wp.condG ?_) | simp (disch := omega) only [↓RP, RQ, TS, TR, ↓reduceIte, Nat.reduceEqDiff, Nat.reduceLT, Nat.reduceLeDiff, Int.reduceLT, Int.reduceLE, Int.reduceEq, Int.reduceAdd, Int.reduceSub, Int.reduceNeg, Int.reduceToNat, Nat.reduceAdd, Nat.reduceMul, Nat.reduceSub, reduceCtorEq, RC, Int.cast_ofNat_Int, hn, g0, hS.ld 0 rfl]
  refine letG_split' (fun h2 => ?_) (fun h2 => ?_)
  · repeat first | (with_reducible first | refine Wp.seq ?_ | refine Wp.reg ?_ | refine Wp.block ?_ | refine Wp.skip ?_ | refine Wp.ret ?_ | refine Wp.exit ?_ | refine Wp.label ?_ | refine Wp.condG ?_) | simp (disch := omega) only [↓RP, RQ, TS, TR, ↓reduceIte, Nat.reduceEqDiff, Nat.reduceLT, Nat.reduceLeDiff, Int.reduceLT, Int.reduceLE, Int.reduceEq, Int.reduceAdd, Int.reduceSub, Int.reduceNeg, Int.reduceToNat, Nat.reduceAdd, Nat.reduceMul, Nat.reduceSub, reduceCtorEq, RC, Int.cast_ofNat_Int, hn, g0, h2]
    exact ⟨by unfold chk; rw [if_neg h, if_pos (.inl h2)], hS.forget⟩
  repeat first | (with_reducible first | refine Wp.seq ?_ | refine Wp.reg ?_ | refine Wp.block ?_ | refine Wp.skip ?_ | refine Wp.ret ?_ | refine Wp.exit ?_ | refine Wp.label ?_ | refine Wp.condG ?_) | simp (disch := omega) only [↓RP, RQ, TS, TR, ↓reduceIte, Nat.reduceEqDiff, Nat.reduceLT, Nat.reduceLeDiff, Int.reduceLT, Int.reduceLE, Int.reduceEq, Int.reduceAdd, Int.reduceSub, Int.reduceNeg, Int.reduceToNat, Nat.reduceAdd, Nat.reduceMul, Nat.reduceSub, reduceCtorEq, RC, Int.cast_ofNat_Int, hn, g0, hS.ld 0 rfl, hv1.len, h2]
  refine condW_split (fun h3 => ?_) (fun h3 => ?_)
  · repeat first | (with_reducible first | refine Wp.seq ?_ | refine Wp.reg ?_ | refine Wp.block ?_ | refine Wp.skip ?_ | refine Wp.ret ?_ | refine Wp.exit ?_ | refine Wp.label ?_ | refine Wp.condG ?_) | simp (disch := omega) only [↓RP, RQ, TS, TR, ↓reduceIte, Nat.reduceEqDiff, Nat.reduceLT, Nat.reduceLeDiff, Int.reduceLT, Int.reduceLE, Int.reduceEq, Int.reduceAdd, Int.reduceSub, Int.reduceNeg, Int.reduceToNat, Nat.reduceAdd, Nat.reduceMul, Nat.reduceSub, reduceCtorEq, RC, Int.cast_ofNat_Int, hn, g0]
    exact ⟨by unfold chk; rw [if_neg h, if_pos (.inr (by omega))], hS.forget⟩
  repeat first | (with_reducible first | refine Wp.seq ?_ | refine Wp.reg ?_ | refine Wp.block ?_ | refine Wp.skip ?_ | refine Wp.ret ?_ | refine Wp.exit ?_ | refine Wp.label ?_ | refine Wp.condG ?_) | simp (disch := omega) only [↓RP, RQ, TS, TR, ↓reduceIte, Nat.reduceEqDiff, Nat.reduceLT, Nat.reduceLeDiff, Int.reduceLT, Int.reduceLE, Int.reduceEq, Int.reduceAdd, Int.reduceSub, Int.reduceNeg, Int.reduceToNat, Nat.reduceAdd, Nat.reduceMul, Nat.reduceSub, reduceCtorEq, RC, Int.cast_ofNat_Int, hn, g0]
  have hch : chk N es = if es.all (okE N) = true then 0 else 10 := by unfold chk; rw [if_neg h, if_neg (by omega)]
  refine Wp.loopN (fun n l H' => St Try.prog H H' [⟨ptr A 0 2, 0, [I N, v]⟩] ∧ l.length = 51 ∧ get l 1 = ptr A 0 2 ∧ ∃ i : Nat, n + i = es.length ∧ get l 3 = I i ∧ ∀ j, j < i → okE N (es.getD j (0, 0)) = true) es.length ?_ ?_
  · simp (disch := omega) only [↓RP, RQ, TS, TR, ↓reduceIte, Nat.reduceEqDiff, Nat.reduceLT, Nat.reduceLeDiff, Int.reduceLT, Int.reduceLE, Int.reduceEq, Int.reduceAdd, Int.reduceSub, Int.reduceNeg, Int.reduceToNat, Nat.reduceAdd, Nat.reduceMul, Nat.reduceSub, reduceCtorEq, RC, Int.cast_ofNat_Int, hn]
    exact ⟨hS, 0, rfl, rfl, fun j hj => absurd hj (Nat.not_lt_zero _)⟩
  clear hS hn g0 h h2 h3 hv1
  rintro n l H' ⟨hS, hn, g1, i, hi, g3, hok⟩
  have hv1 : Sl2 H' v _ _ es := hS.base hv
  repeat first | (with_reducible first | refine Wp.seq ?_ | refine Wp.reg ?_ | refine Wp.block ?_ | refine Wp.skip ?_ | refine Wp.ret ?_ | refine Wp.exit ?_ | refine Wp.label ?_ | refine Wp.condG ?_) | simp (disch := omega) only [↓RP, RQ, TS, TR, ↓reduceIte, Nat.reduceEqDiff, Nat.reduceLT, Nat.reduceLeDiff, Int.reduceLT, Int.reduceLE, Int.reduceEq, Int.reduceAdd, Int.reduceSub, Int.reduceNeg, Int.reduceToNat, Nat.reduceAdd, Nat.reduceMul, Nat.reduceSub, reduceCtorEq, RC, Int.cast_ofNat_Int, hn, g1, g3, hS.ld 0 rfl, hv1.len]
  refine condW_split (fun h3 => ?_) (fun h3 => ?_)
  · have hil : i < es.length := by omega
    repeat first | (with_reducible first | refine Wp.seq ?_ | refine Wp.reg ?_ | refine Wp.block ?_ | refine Wp.skip ?_ | refine Wp.ret ?_ | refine Wp.exit ?_ | refine Wp.label ?_ | refine Wp.condG ?_) | simp (disch := omega) only [↓RP, RQ, TS, TR, ↓reduceIte, Nat.reduceEqDiff, Nat.reduceLT, Nat.reduceLeDiff, Int.reduceLT, Int.reduceLE, Int.reduceEq, Int.reduceAdd, Int.reduceSub, Int.reduceNeg, Int.reduceToNat, Nat.reduceAdd, Nat.reduceMul, Nat.reduceSub, reduceCtorEq, RC, Int.cast_ofNat_Int, hn, g1, g3, hS.ld 0 rfl, hv1.idx, hv1.ldA (0, 0)]
    refine hS.eNew 2 [I 0, I 0] rfl rfl rfl tS48 fun B H1 hS => ?_
    repeat first | (with_reducible first | refine Wp.seq ?_ | refine Wp.reg ?_ | refine Wp.block ?_ | refine Wp.skip ?_ | refine Wp.ret ?_ | refine Wp.exit ?_ | refine Wp.label ?_ | refine Wp.condG ?_) | simp (disch := omega) only [↓RP, RQ, TS, TR, ↓reduceIte, Nat.reduceEqDiff, Nat.reduceLT, Nat.reduceLeDiff, Int.reduceLT, Int.reduceLE, Int.reduceEq, Int.reduceAdd, Int.reduceSub, Int.reduceNeg, Int.reduceToNat, Nat.reduceAdd, Nat.reduceMul, Nat.reduceSub, reduceCtorEq, RC, Int.cast_ofNat_Int, hn, g1, g3]
    refine hS.eStore 1 rfl [_, _] rfl rfl tS48 (by simp) fun H2 hS => ?_
    simp only [List.nil_append, List.cons_append, List.append_nil, List.set_cons_zero, List.set_cons_succ, setMany_cons, setMany_nil, Nat.zero_add, Nat.mul_one, Nat.add_zero] at hS
    have hbad : okE N (es.getD i (0, 0)) = false → chk N es = 10 := fun hb => by
      rw [hch, if_neg]
      intro ha
      rw [List.all_eq_true] at ha
      have := ha _ (getD_mem (0, 0) hil)
      rw [hb] at this
      cases this
    have hgood : okE N (es.getD i (0, 0)) = true → ∀ j, j < i + 1 → okE N (es.getD j (0, 0)) = true := fun hb j hj => by
      by_cases e : j = i
      · subst e; exact hb
      · exact hok j (by omega)
    have hokE : okE N (es.getD i (0, 0)) = (decide (0 ≤ (es.getD i (0, 0)).1 ∧ (es.getD i (0, 0)).1 < N) && decide (0 ≤ (es.getD i (0, 0)).2 ∧ (es.getD i (0, 0)).2 < N)) := rfl
    generalize es.getD i (0, 0) = e at hbad hgood hS hokE ⊢
    by_cases c : (0 ≤ e.1 ∧ e.1 < N) ∧ (0 ≤ e.2 ∧ e.2 < N)
    · have hk : okE N e = true := by rw [hokE, decide_eq_true c.1, decide_eq_true c.2]; rfl
      have d1 : decide (e.1 < 0) = false := decide_eq_false (by omega)
      have d2 : decide (N ≤ e.1) = false := decide_eq_false (by omega)
      have d3 : decide (e.2 < 0) = false := decide_eq_false (by omega)
      have d4 : decide (N ≤ e.2) = false := decide_eq_false (by omega)
      repeat first | (with_reducible first | refine Wp.seq ?_ | refine Wp.reg ?_ | refine Wp.block ?_ | refine Wp.skip ?_ | refine Wp.ret ?_ | refine Wp.exit ?_ | refine Wp.label ?_ | refine Wp.condG ?_) | simp (disch := omega) only [↓RP, RQ, TS, TR, ↓reduceIte, Nat.reduceEqDiff, Nat.reduceLT, Nat.reduceLeDiff, Int.reduceLT, Int.reduceLE, Int.reduceEq, Int.reduceAdd, Int.reduceSub, Int.reduceNeg, Int.reduceToNat, Nat.reduceAdd, Nat.reduceMul, Nat.reduceSub, reduceCtorEq, RC, Int.cast_ofNat_Int, hn, g1, g3, hS.ld 0 rfl, hS.ld 1 rfl, d1, d2, d3, d4, wrap_fit]
      exact ⟨n - 1, by omega, hS.sub (by simp), i + 1, by omega, rfl, hgood hk⟩
    · have hk : okE N e = false := by
        rw [hokE, Bool.and_eq_false_iff, decide_eq_false_iff_not, decide_eq_false_iff_not]
        by_cases c1 : 0 ≤ e.1 ∧ e.1 < N
        · exact .inr fun c2 => c ⟨c1, c2⟩
        · exact .inl c1
      have hb := hbad hk
      by_cases c1 : e.1 < 0
      · repeat first | (with_reducible first | refine Wp.seq ?_ | refine Wp.reg ?_ | refine Wp.block ?_ | refine Wp.skip ?_ | refine Wp.ret ?_ | refine Wp.exit ?_ | refine Wp.label ?_ | refine Wp.condG ?_) | simp (disch := omega) only [↓RP, RQ, TS, TR, ↓reduceIte, Nat.reduceEqDiff, Nat.reduceLT, Nat.reduceLeDiff, Int.reduceLT, Int.reduceLE, Int.reduceEq, Int.reduceAdd, Int.reduceSub, Int.reduceNeg, Int.reduceToNat, Nat.reduceAdd, Nat.reduceMul, Nat.reduceSub, reduceCtorEq, RC, Int.cast_ofNat_Int, hn, g1, g3, hS.ld 0 rfl, hS.ld 1 rfl, decide_eq_true c1]
        exact ⟨by rw [hb], hS.forget⟩
      by_cases c2 : N ≤ e.1
      · repeat first | (with_reducible first | refine Wp.seq ?_ | refine Wp.reg ?_ | refine Wp.block ?_ | refine Wp.skip ?_ | refine Wp.ret ?_ | refine Wp.exit ?_ | refine Wp.label ?_ | refine Wp.condG ?_) | simp (disch := omega) only [↓RP, RQ, TS, TR, ↓reduceIte, Nat.reduceEqDiff, Nat.reduceLT, Nat.reduceLeDiff, Int.reduceLT, Int.reduceLE, Int.reduceEq, Int.reduceAdd, Int.reduceSub, Int.reduceNeg, Int.reduceToNat, Nat.reduceAdd, Nat.reduceMul, Nat.reduceSub, reduceCtorEq, RC, Int.cast_ofNat_Int, hn, g1, g3, hS.ld 0 rfl, hS.ld 1 rfl, decide_eq_false c1, decide_eq_true c2]
        exact ⟨by rw [hb], hS.forget⟩
      by_cases c3 : e.2 < 0
      · repeat first | (with_reducible first | refine Wp.seq ?_ | refine Wp.reg ?_ | refine Wp.block ?_ | refine Wp.skip ?_ | refine Wp.ret ?_ | refine Wp.exit ?_ | refine Wp.label ?_ | refine Wp.condG ?_) | simp (disch := omega) only [↓RP, RQ, TS, TR, ↓reduceIte, Nat.reduceEqDiff, Nat.reduceLT, Nat.reduceLeDiff, Int.reduceLT, Int.reduceLE, Int.reduceEq, Int.reduceAdd, Int.reduceSub, Int.reduceNeg, Int.reduceToNat, Nat.reduceAdd, Nat.reduceMul, Nat.reduceSub, reduceCtorEq, RC, Int.cast_ofNat_Int, hn, g1, g3, hS.ld 0 rfl, hS.ld 1 rfl, decide_eq_false c1, decide_eq_false c2, decide_eq_true c3]
        exact ⟨by rw [hb], hS.forget⟩
      have c4 : N ≤ e.2 := by omega
      repeat first | (with_reducible first | refine Wp.seq ?_ | refine Wp.reg ?_ | refine Wp.block ?_ | refine Wp.skip ?_ | refine Wp.ret ?_ | refine Wp.exit ?_ | refine Wp.label ?_ | refine Wp.condG ?_) | simp (disch := omega) only [↓RP, RQ, TS, TR, ↓reduceIte, Nat.reduceEqDiff, Nat.reduceLT, Nat.reduceLeDiff, Int.reduceLT, Int.reduceLE, Int.reduceEq, Int.reduceAdd, Int.reduceSub, Int.reduceNeg, Int.reduceToNat, Nat.reduceAdd, Nat.reduceMul, Nat.reduceSub, reduceCtorEq, RC, Int.cast_ofNat_Int, hn, g1, g3, hS.ld 0 rfl, hS.ld 1 rfl, decide_eq_false c1, decide_eq_false c2, decide_eq_false c3, decide_eq_true c4]
      exact ⟨by rw [hb], hS.forget⟩
  · repeat first | (with_reducible first | refine Wp.seq ?_ | refine Wp.reg ?_ | refine Wp.block ?_ | refine Wp.skip ?_ | refine Wp.ret ?_ | refine Wp.exit ?_ | refine Wp.label ?_ | refine Wp.condG ?_) | simp (disch := omega) only [↓RP, RQ, TS, TR, ↓reduceIte, Nat.reduceEqDiff, Nat.reduceLT, Nat.reduceLeDiff, Int.reduceLT, Int.reduceLE, Int.reduceEq, Int.reduceAdd, Int.reduceSub, Int.reduceNeg, Int.reduceToNat, Nat.reduceAdd, Nat.reduceMul, Nat.reduceSub, reduceCtorEq, RC, Int.cast_ofNat_Int, hn]
    refine ⟨?_, hS.forget⟩
    rw [hch, if_pos]
    rw [List.all_eq_true]
    intro x hx
    obtain ⟨j, hj, rfl⟩ := List.mem_iff_getElem.1 hx
    have := hok j (by omega)
    rwa [List.getD_eq_getElem?_getD, List.getElem?_eq_getElem hj] at this
end Go.Ds
/-
  Contracts: what the functions say of a graph with an error.
-/
namespace Go.Ds
open Go.Proofs Go.Plain
variable {H : Heap}

theorem tR33 (l : List Value) (H : Heap) : resultsD Try.prog Try.f33 l H = (ldW (aggP Try.prog 27) (sizeP Try.prog 27) H (get l 2)).bind fun v => if (noTuple v && (noTuple (get l 3) && true)) = true then some (.tuple #[v, get l 3]) else none := by
  show (Option.bind (Option.bind (loadD Try.prog H 27 (get l 2)) fun v => some [v, get l 3]) fun vs => _) = _
  rw [loadD_eq]
  cases ldW _ _ H (get l 2) <;> rfl

theorem cycleZ_ok (N : Int) (v : Value) (es : List (Int × Int)) (hv : EgZ H v es) (he : es.length < 1000000) (hc : chk N es ≠ 0) : Fn Try.prog 19 [.agg #[I N, v]] H fun r H' => r = .tuple #[.slice none 0 0, .bool false, I (chk N es)] ∧ St Try.prog H H' [] := by
  refine Fn.of_wp (fn := Try.f19) rfl rfl (by kernel_rfl) fun l hl => ?_
  have hn : l.length = 53 := by rw [hl]; rfl
  have g0 : get l 0 = .agg #[I N, v] := by rw [hl]; rfl
  clear hl
  repeat first | (with_reducible first | refine Wp.seq ?_ | refine Wp.reg ?_ | refine Wp.block ?_ | refine Wp.skip ?_ | refine Wp.ret ?_ | refine Wp.exit ?_ | refine Wp.label ?_ | refine Wp.condG ?_) | simp (disch := omega) only [↓RP, RQ, TS, TR, ↓reduceIte, Nat.reduceEqDiff, Nat.reduceLT, Nat.reduceLeDiff, Int.reduceLT, Int.reduceLE, Int.reduceEq, Int.reduceAdd, Int.reduceSub, Int.reduceNeg, Int.reduceToNat, Nat.reduceAdd, Nat.reduceMul, Nat.reduceSub, reduceCtorEq, RC, Int.cast_ofNat_Int, hn, g0]
  refine (St.refl _ H).eNew 2 [I N, v] rfl rfl (by simp [RdAt.one hv]; rfl) tS27 fun A H1 hS => ?_
  repeat first | (with_reducible first | refine Wp.seq ?_ | refine Wp.reg ?_ | refine Wp.block ?_ | refine Wp.skip ?_ | refine Wp.ret ?_ | refine Wp.exit ?_ | refine Wp.label ?_ | refine Wp.condG ?_) | simp (disch := omega) only [↓RP, RQ, TS, TR, ↓reduceIte, Nat.reduceEqDiff, Nat.reduceLT, Nat.reduceLeDiff, Int.reduceLT, Int.reduceLE, Int.reduceEq, Int.reduceAdd, Int.reduceSub, Int.reduceNeg, Int.reduceToNat, Nat.reduceAdd, Nat.reduceMul, Nat.reduceSub, reduceCtorEq, RC, Int.cast_ofNat_Int, hn, g0, hS.ldA 0 rfl]
  refine callFW_of (checkZ_ok N v es (hS.base hv) he) ?_
  rintro r H2 ⟨rfl, hS2⟩
  have hS := hS.trans hS2
  generalize chk N es = e at hc ⊢
  repeat first | (with_reducible first | refine Wp.seq ?_ | refine Wp.reg ?_ | refine Wp.block ?_ | refine Wp.skip ?_ | refine Wp.ret ?_ | refine Wp.exit ?_ | refine Wp.label ?_ | refine Wp.condG ?_) | simp (disch := omega) only [↓RP, RQ, TS, TR, ↓reduceIte, Nat.reduceEqDiff, Nat.reduceLT, Nat.reduceLeDiff, Int.reduceLT, Int.reduceLE, Int.reduceEq, Int.reduceAdd, Int.reduceSub, Int.reduceNeg, Int.reduceToNat, Nat.reduceAdd, Nat.reduceMul, Nat.reduceSub, reduceCtorEq, RC, Int.cast_ofNat_Int, hn, g0]
  refine condW_split (fun h => ?_) (fun h => absurd hc h)
  repeat first | (with_reducible first | refine Wp.seq ?_ | refine Wp.reg ?_ | refine Wp.block ?_ | refine Wp.skip ?_ | refine Wp.ret ?_ | refine Wp.exit ?_ | refine Wp.label ?_ | refine Wp.condG ?_) | simp (disch := omega) only [↓RP, RQ, TS, TR, ↓reduceIte, Nat.reduceEqDiff, Nat.reduceLT, Nat.reduceLeDiff, Int.reduceLT, Int.reduceLE, Int.reduceEq, Int.reduceAdd, Int.reduceSub, Int.reduceNeg, Int.reduceToNat, Nat.reduceAdd, Nat.reduceMul, Nat.reduceSub, reduceCtorEq, RC, Int.cast_ofNat_Int, hn, g0]
  exact hS.forget

theorem componentsZ_ok (N : Int) (v : Value) (es : List (Int × Int)) (hv : EgZ H v es) (he : es.length < 1000000) (hc : chk N es ≠ 0) : Fn Try.prog 32 [.agg #[I N, v]] H fun r H' => r = .tuple #[.slice none 0 0, I (chk N es)] ∧ St Try.prog H H' [] := by
  refine Fn.of_wp (fn := Try.f32) rfl rfl (by kernel_rfl) fun l hl => ?_
  have hn : l.length = 18 := by rw [hl]; rfl
  have g0 : get l 0 = .agg #[I N, v] := by rw [hl]; rfl
  clear hl
  repeat first | (with_reducible first | refine Wp.seq ?_ | refine Wp.reg ?_ | refine Wp.block ?_ | refine Wp.skip ?_ | refine Wp.ret ?_ | refine Wp.exit ?_ | refine Wp.label ?_ | refine Wp.condG ?_) | simp (disch := omega) only [↓RP, RQ, TS, TR, ↓reduceIte, Nat.reduceEqDiff, Nat.reduceLT, Nat.reduceLeDiff, Int.reduceLT, Int.reduceLE, Int.reduceEq, Int.reduceAdd, Int.reduceSub, Int.reduceNeg, Int.reduceToNat, Nat.reduceAdd, Nat.reduceMul, Nat.reduceSub, reduceCtorEq, RC, Int.cast_ofNat_Int, hn, g0]
  refine (St.refl _ H).eNew 2 [I N, v] rfl rfl (by simp [RdAt.one hv]; rfl) tS27 fun A H1 hS => ?_
  repeat first | (with_reducible first | refine Wp.seq ?_ | refine Wp.reg ?_ | refine Wp.block ?_ | refine Wp.skip ?_ | refine Wp.ret ?_ | refine Wp.exit ?_ | refine Wp.label ?_ | refine Wp.condG ?_) | simp (disch := omega) only [↓RP, RQ, TS, TR, ↓reduceIte, Nat.reduceEqDiff, Nat.reduceLT, Nat.reduceLeDiff, Int.reduceLT, Int.reduceLE, Int.reduceEq, Int.reduceAdd, Int.reduceSub, Int.reduceNeg, Int.reduceToNat, Nat.reduceAdd, Nat.reduceMul, Nat.reduceSub, reduceCtorEq, RC, Int.cast_ofNat_Int, hn, g0, hS.ldA 0 rfl]
  refine callFW_of (checkZ_ok N v es (hS.base hv) he) ?_
  rintro r H2 ⟨rfl, hS2⟩
  have hS := hS.trans hS2
  generalize chk N es = e at hc ⊢
  repeat first | (with_reducible first | refine Wp.seq ?_ | refine Wp.reg ?_ | refine Wp.block ?_ | refine Wp.skip ?_ | refine Wp.ret ?_ | refine Wp.exit ?_ | refine Wp.label ?_ | refine Wp.condG ?_) | simp (disch := omega) only [↓RP, RQ, TS, TR, ↓reduceIte, Nat.reduceEqDiff, Nat.reduceLT, Nat.reduceLeDiff, Int.reduceLT, Int.reduceLE, Int.reduceEq, Int.reduceAdd, Int.reduceSub, Int.reduceNeg, Int.reduceToNat, Nat.reduceAdd, Nat.reduceMul, Nat.reduceSub, reduceCtorEq, RC, Int.cast_ofNat_Int, hn, g0]
  refine condW_split (fun h => ?_) (fun h => absurd hc h)
  repeat first | (with_reducible first | refine Wp.seq ?_ | refine Wp.reg ?_ | refine Wp.block ?_ | refine Wp.skip ?_ | refine Wp.ret ?_ | refine Wp.exit ?_ | refine Wp.label ?_ | refine Wp.condG ?_) | simp (disch := omega) only [↓RP, RQ, TS, TR, ↓reduceIte, Nat.reduceEqDiff, Nat.reduceLT, Nat.reduceLeDiff, Int.reduceLT, Int.reduceLE, Int.reduceEq, Int.reduceAdd, Int.reduceSub, Int.reduceNeg, Int.reduceToNat, Nat.reduceAdd, Nat.reduceMul, Nat.reduceSub, reduceCtorEq, RC, Int.cast_ofNat_Int, hn, g0]
  exact hS.forget

theorem orderZ_ok (N : Int) (v : Value) (es : List (Int × Int)) (hv : EgZ H v es) (he : es.length < 1000000) (hc : chk N es ≠ 0) : Fn Try.prog 21 [.agg #[I N, v]] H fun r H' => r = .tuple #[.slice none 0 0, I (chk N es)] ∧ St Try.prog H H' [] := by
  refine Fn.of_wp (fn := Try.f21) rfl rfl (by kernel_rfl) fun l hl => ?_
  have hn : l.length = 66 := by rw [hl]; rfl
  have g0 : get l 0 = .agg #[I N, v] := by rw [hl]; rfl
  clear hl
  repeat first | (with_reducible first | refine Wp.seq ?_ | refine Wp.reg ?_ | refine Wp.block ?_ | refine Wp.skip ?_ | refine Wp.ret ?_ | refine Wp.exit ?_ | refine Wp.label ?_ | refine Wp.condG ?_) | simp (disch := omega) only [↓RP, RQ, TS, TR, ↓reduceIte, Nat.reduceEqDiff, Nat.reduceLT, Nat.reduceLeDiff, Int.reduceLT, Int.reduceLE, Int.reduceEq, Int.reduceAdd, Int.reduceSub, Int.reduceNeg, Int.reduceToNat, Nat.reduceAdd, Nat.reduceMul, Nat.reduceSub, reduceCtorEq, RC, Int.cast_ofNat_Int, hn, g0]
  refine (St.refl _ H).eNew 2 [I N, v] rfl rfl (by simp [RdAt.one hv]; rfl) tS27 fun A H1 hS => ?_
  repeat first | (with_reducible first | refine Wp.seq ?_ | refine Wp.reg ?_ | refine Wp.block ?_ | refine Wp.skip ?_ | refine Wp.ret ?_ | refine Wp.exit ?_ | refine Wp.label ?_ | refine Wp.condG ?_) | simp (disch := omega) only [↓RP, RQ, TS, TR, ↓reduceIte, Nat.reduceEqDiff, Nat.reduceLT, Nat.reduceLeDiff, Int.reduceLT, Int.reduceLE, Int.reduceEq, Int.reduceAdd, Int.reduceSub, Int.reduceNeg, Int.reduceToNat, Nat.reduceAdd, Nat.reduceMul, Nat.reduceSub, reduceCtorEq, RC, Int.cast_ofNat_Int, hn, g0, hS.ldA 0 rfl]
  refine callFW_of (checkZ_ok N v es (hS.base hv) he) ?_
  rintro r H2 ⟨rfl, hS2⟩
  have hS := hS.trans hS2
  generalize chk N es = e at hc ⊢
  repeat first | (with_reducible first | refine Wp.seq ?_ | refine Wp.reg ?_ | refine Wp.block ?_ | refine Wp.skip ?_ | refine Wp.ret ?_ | refine Wp.exit ?_ | refine Wp.label ?_ | refine Wp.condG ?_) | simp (disch := omega) only [↓RP, RQ, TS, TR, ↓reduceIte, Nat.reduceEqDiff, Nat.reduceLT, Nat.reduceLeDiff, Int.reduceLT, Int.reduceLE, Int.reduceEq, Int.reduceAdd, Int.reduceSub, Int.reduceNeg, Int.reduceToNat, Nat.reduceAdd, Nat.reduceMul, Nat.reduceSub, reduceCtorEq, RC, Int.cast_ofNat_Int, hn, g0]
  refine condW_split (fun h => ?_) (fun h => absurd hc h)
  repeat first | (with_reducible first | refine Wp.seq ?_ | refine Wp.reg ?_ | refine Wp.block ?_ | refine Wp.skip ?_ | refine Wp.ret ?_ | refine Wp.exit ?_ | refine Wp.label ?_ | refine Wp.condG ?_) | simp (disch := omega) only [↓RP, RQ, TS, TR, ↓reduceIte, Nat.reduceEqDiff, Nat.reduceLT, Nat.reduceLeDiff, Int.reduceLT, Int.reduceLE, Int.reduceEq, Int.reduceAdd, Int.reduceSub, Int.reduceNeg, Int.reduceToNat, Nat.reduceAdd, Nat.reduceMul, Nat.reduceSub, reduceCtorEq, RC, Int.cast_ofNat_Int, hn, g0]
  exact hS.forget

theorem condenseZ_ok (N : Int) (v : Value) (es : List (Int × Int)) (hv : EgZ H v es) (he : es.length < 1000000) (hc : chk N es ≠ 0) : Fn Try.prog 33 [.agg #[I N, v]] H fun r H' => r = .tuple #[.agg #[I 0, .slice none 0 0], I (chk N es)] ∧ St Try.prog H H' [] := by
  refine Fn.of_wp (fn := Try.f33) rfl rfl (by kernel_rfl) fun l hl => ?_
  have hn : l.length = 58 := by rw [hl]; rfl
  have g0 : get l 0 = .agg #[I N, v] := by rw [hl]; rfl
  clear hl
  repeat first | (with_reducible first | refine Wp.seq ?_ | refine Wp.reg ?_ | refine Wp.block ?_ | refine Wp.skip ?_ | refine Wp.ret ?_ | refine Wp.exit ?_ | refine Wp.label ?_ | refine Wp.condG ?_) | simp (disch := omega) only [↓RP, RQ, TS, TR, ↓reduceIte, Nat.reduceEqDiff, Nat.reduceLT, Nat.reduceLeDiff, Int.reduceLT, Int.reduceLE, Int.reduceEq, Int.reduceAdd, Int.reduceSub, Int.reduceNeg, Int.reduceToNat, Nat.reduceAdd, Nat.reduceMul, Nat.reduceSub, reduceCtorEq, RC, Int.cast_ofNat_Int, hn, g0]
  refine (St.refl _ H).eNew 2 [I N, v] rfl rfl (by simp [RdAt.one hv]; rfl) tS27 fun A H1 hS => ?_
  repeat first | (with_reducible first | refine Wp.seq ?_ | refine Wp.reg ?_ | refine Wp.block ?_ | refine Wp.skip ?_ | refine Wp.ret ?_ | refine Wp.exit ?_ | refine Wp.label ?_ | refine Wp.condG ?_) | simp (disch := omega) only [↓RP, RQ, TS, TR, ↓reduceIte, Nat.reduceEqDiff, Nat.reduceLT, Nat.reduceLeDiff, Int.reduceLT, Int.reduceLE, Int.reduceEq, Int.reduceAdd, Int.reduceSub, Int.reduceNeg, Int.reduceToNat, Nat.reduceAdd, Nat.reduceMul, Nat.reduceSub, reduceCtorEq, RC, Int.cast_ofNat_Int, hn, g0]
  refine hS.eNew 2 [I 0, .slice none 0 0] rfl rfl rfl tS27 fun R H2 hS => ?_
  repeat first | (with_reducible first | refine Wp.seq ?_ | refine Wp.reg ?_ | refine Wp.block ?_ | refine Wp.skip ?_ | refine Wp.ret ?_ | refine Wp.exit ?_ | refine Wp.label ?_ | refine Wp.condG ?_) | simp (disch := omega) only [↓RP, RQ, TS, TR, ↓reduceIte, Nat.reduceEqDiff, Nat.reduceLT, Nat.reduceLeDiff, Int.reduceLT, Int.reduceLE, Int.reduceEq, Int.reduceAdd, Int.reduceSub, Int.reduceNeg, Int.reduceToNat, Nat.reduceAdd, Nat.reduceMul, Nat.reduceSub, reduceCtorEq, RC, Int.cast_ofNat_Int, hn, g0, hS.ldA 0 rfl]
  refine callFW_of (checkZ_ok N v es (hS.base hv) he) ?_
  rintro r H3 ⟨rfl, hS2⟩
  have hS := hS.trans hS2
  simp only [List.nil_append, List.cons_append, List.append_nil, List.set_cons_zero, List.set_cons_succ, setMany_cons, setMany_nil, Nat.zero_add, Nat.mul_one, Nat.add_zero] at hS
  generalize chk N es = e at hc ⊢
  repeat first | (with_reducible first | refine Wp.seq ?_ | refine Wp.reg ?_ | refine Wp.block ?_ | refine Wp.skip ?_ | refine Wp.ret ?_ | refine Wp.exit ?_ | refine Wp.label ?_ | refine Wp.condG ?_) | simp (disch := omega) only [↓RP, RQ, TS, TR, ↓reduceIte, Nat.reduceEqDiff, Nat.reduceLT, Nat.reduceLeDiff, Int.reduceLT, Int.reduceLE, Int.reduceEq, Int.reduceAdd, Int.reduceSub, Int.reduceNeg, Int.reduceToNat, Nat.reduceAdd, Nat.reduceMul, Nat.reduceSub, reduceCtorEq, RC, Int.cast_ofNat_Int, hn, g0]
  refine condW_split (fun h => ?_) (fun h => absurd hc h)
  repeat first | (with_reducible first | refine Wp.seq ?_ | refine Wp.reg ?_ | refine Wp.block ?_ | refine Wp.skip ?_ | refine Wp.ret ?_ | refine Wp.exit ?_ | refine Wp.label ?_ | refine Wp.condG ?_) | simp (disch := omega) only [↓RP, RQ, TS, TR, ↓reduceIte, Nat.reduceEqDiff, Nat.reduceLT, Nat.reduceLeDiff, Int.reduceLT, Int.reduceLE, Int.reduceEq, Int.reduceAdd, Int.reduceSub, Int.reduceNeg, Int.reduceToNat, Nat.reduceAdd, Nat.reduceMul, Nat.reduceSub, reduceCtorEq, RC, Int.cast_ofNat_Int, hn, g0, tB27n]
  refine hS.eStore 1 rfl [I 0, .slice none 0 0] rfl rfl tS27 (by simp) fun H5 hS => ?_
  simp only [List.nil_append, List.cons_append, List.append_nil, List.set_cons_zero, List.set_cons_succ, setMany_cons, setMany_nil, Nat.zero_add, Nat.mul_one, Nat.add_zero] at hS
  repeat first | (with_reducible first | refine Wp.seq ?_ | refine Wp.reg ?_ | refine Wp.block ?_ | refine Wp.skip ?_ | refine Wp.ret ?_ | refine Wp.exit ?_ | refine Wp.label ?_ | refine Wp.condG ?_) | simp (disch := omega) only [↓RP, RQ, TS, TR, ↓reduceIte, Nat.reduceEqDiff, Nat.reduceLT, Nat.reduceLeDiff, Int.reduceLT, Int.reduceLE, Int.reduceEq, Int.reduceAdd, Int.reduceSub, Int.reduceNeg, Int.reduceToNat, Nat.reduceAdd, Nat.reduceMul, Nat.reduceSub, reduceCtorEq, RC, Int.cast_ofNat_Int, hn, g0, tR33, hS.ldA 1 rfl]
  exact hS.forget

theorem reverseZ_ok (N : Int) (v : Value) (es : List (Int × Int)) (hv : EgZ H v es) (he : es.length < 1000000) (hc : chk N es ≠ 0) : Fn Try.prog 28 [.agg #[I N, v]] H fun r H' => r = .tuple #[.agg #[I 0, .slice none 0 0], I (chk N es)] ∧ St Try.prog H H' [] := by
  refine Fn.of_wp (fn := Try.f28) rfl rfl (by kernel_rfl) fun l hl => ?_
  have hn : l.length = 13 := by rw [hl]; rfl
  have g0 : get l 0 = .agg #[I N, v] := by rw [hl]; rfl
  clear hl
  repeat first | (with_reducible first | refine Wp.seq ?_ | refine Wp.reg ?_ | refine Wp.block ?_ | refine Wp.skip ?_ | refine Wp.ret ?_ | refine Wp.exit ?_ | refine Wp.label ?_ | refine Wp.condG ?_) | simp (disch := omega) only [↓RP, RQ, TS, TR, ↓reduceIte, Nat.reduceEqDiff, Nat.reduceLT, Nat.reduceLeDiff, Int.reduceLT, Int.reduceLE, Int.reduceEq, Int.reduceAdd, Int.reduceSub, Int.reduceNeg, Int.reduceToNat, Nat.reduceAdd, Nat.reduceMul, Nat.reduceSub, reduceCtorEq, RC, Int.cast_ofNat_Int, hn, g0]
  refine (St.refl _ H).eNew 2 [I N, v] rfl rfl (by simp [RdAt.one hv]; rfl) tS27 fun A H1 hS => ?_
  repeat first | (with_reducible first | refine Wp.seq ?_ | refine Wp.reg ?_ | refine Wp.block ?_ | refine Wp.skip ?_ | refine Wp.ret ?_ | refine Wp.exit ?_ | refine Wp.label ?_ | refine Wp.condG ?_) | simp (disch := omega) only [↓RP, RQ, TS, TR, ↓reduceIte, Nat.reduceEqDiff, Nat.reduceLT, Nat.reduceLeDiff, Int.reduceLT, Int.reduceLE, Int.reduceEq, Int.reduceAdd, Int.reduceSub, Int.reduceNeg, Int.reduceToNat, Nat.reduceAdd, Nat.reduceMul, Nat.reduceSub, reduceCtorEq, RC, Int.cast_ofNat_Int, hn, g0]
  refine hS.eNew 2 [I 0, .slice none 0 0] rfl rfl rfl tS27 fun R H2 hS => ?_
  repeat first | (with_reducible first | refine Wp.seq ?_ | refine Wp.reg ?_ | refine Wp.block ?_ | refine Wp.skip ?_ | refine Wp.ret ?_ | refine Wp.exit ?_ | refine Wp.label ?_ | refine Wp.condG ?_) | simp (disch := omega) only [↓RP, RQ, TS, TR, ↓reduceIte, Nat.reduceEqDiff, Nat.reduceLT, Nat.reduceLeDiff, Int.reduceLT, Int.reduceLE, Int.reduceEq, Int.reduceAdd, Int.reduceSub, Int.reduceNeg, Int.reduceToNat, Nat.reduceAdd, Nat.reduceMul, Nat.reduceSub, reduceCtorEq, RC, Int.cast_ofNat_Int, hn, g0, hS.ldA 0 rfl]
  refine callFW_of (checkZ_ok N v es (hS.base hv) he) ?_
  rintro r H3 ⟨rfl, hS2⟩
  have hS := hS.trans hS2
  simp only [List.nil_append, List.cons_append, List.append_nil, List.set_cons_zero, List.set_cons_succ, setMany_cons, setMany_nil, Nat.zero_add, Nat.mul_one, Nat.add_zero] at hS
  generalize chk N es = e at hc ⊢
  repeat first | (with_reducible first | refine Wp.seq ?_ | refine Wp.reg ?_ | refine Wp.block ?_ | refine Wp.skip ?_ | refine Wp.ret ?_ | refine Wp.exit ?_ | refine Wp.label ?_ | refine Wp.condG ?_) | simp (disch := omega) only [↓RP, RQ, TS, TR, ↓reduceIte, Nat.reduceEqDiff, Nat.reduceLT, Nat.reduceLeDiff, Int.reduceLT, Int.reduceLE, Int.reduceEq, Int.reduceAdd, Int.reduceSub, Int.reduceNeg, Int.reduceToNat, Nat.reduceAdd, Nat.reduceMul, Nat.reduceSub, reduceCtorEq, RC, Int.cast_ofNat_Int, hn, g0]
  refine condW_split (fun h => ?_) (fun h => absurd hc h)
  repeat first | (with_reducible first | refine Wp.seq ?_ | refine Wp.reg ?_ | refine Wp.block ?_ | refine Wp.skip ?_ | refine Wp.ret ?_ | refine Wp.exit ?_ | refine Wp.label ?_ | refine Wp.condG ?_) | simp (disch := omega) only [↓RP, RQ, TS, TR, ↓reduceIte, Nat.reduceEqDiff, Nat.reduceLT, Nat.reduceLeDiff, Int.reduceLT, Int.reduceLE, Int.reduceEq, Int.reduceAdd, Int.reduceSub, Int.reduceNeg, Int.reduceToNat, Nat.reduceAdd, Nat.reduceMul, Nat.reduceSub, reduceCtorEq, RC, Int.cast_ofNat_Int, hn, g0, tB27n]
  refine hS.eStore 1 rfl [I 0, .slice none 0 0] rfl rfl tS27 (by simp) fun H5 hS => ?_
  simp only [List.nil_append, List.cons_append, List.append_nil, List.set_cons_zero, List.set_cons_succ, setMany_cons, setMany_nil, Nat.zero_add, Nat.mul_one, Nat.add_zero] at hS
  repeat first | (with_reducible first | refine Wp.seq ?_ | refine Wp.reg ?_ | refine Wp.block ?_ | refine Wp.skip ?_ | refine Wp.ret ?_ | refine Wp.exit ?_ | refine Wp.label ?_ | refine Wp.condG ?_) | simp (disch := omega) only [↓RP, RQ, TS, TR, ↓reduceIte, Nat.reduceEqDiff, Nat.reduceLT, Nat.reduceLeDiff, Int.reduceLT, Int.reduceLE, Int.reduceEq, Int.reduceAdd, Int.reduceSub, Int.reduceNeg, Int.reduceToNat, Nat.reduceAdd, Nat.reduceMul, Nat.reduceSub, reduceCtorEq, RC, Int.cast_ofNat_Int, hn, g0, tR28, hS.ldA 1 rfl]
  exact hS.forget

theorem closureZ_ok (N : Int) (v : Value) (es : List (Int × Int)) (hv : EgZ H v es) (he : es.length < 1000000) (hc : chk N es ≠ 0) : Fn Try.prog 27 [.agg #[I N, v]] H fun r H' => r = .tuple #[.agg #[I 0, .slice none 0 0], I (chk N es)] ∧ St Try.prog H H' [] := by
  refine Fn.of_wp (fn := Try.f27) rfl rfl (by kernel_rfl) fun l hl => ?_
  have hn : l.length = 87 := by rw [hl]; rfl
  have g0 : get l 0 = .agg #[I N, v] := by rw [hl]; rfl
  clear hl
  repeat first | (with_reducible first | refine Wp.seq ?_ | refine Wp.reg ?_ | refine Wp.block ?_ | refine Wp.skip ?_ | refine Wp.ret ?_ | refine Wp.exit ?_ | refine Wp.label ?_ | refine Wp.condG ?_) | simp (disch := omega) only [↓RP, RQ, TS, TR, ↓reduceIte, Nat.reduceEqDiff, Nat.reduceLT, Nat.reduceLeDiff, Int.reduceLT, Int.reduceLE, Int.reduceEq, Int.reduceAdd, Int.reduceSub, Int.reduceNeg, Int.reduceToNat, Nat.reduceAdd, Nat.reduceMul, Nat.reduceSub, reduceCtorEq, RC, Int.cast_ofNat_Int, hn, g0]
  refine (St.refl _ H).eNew 2 [I N, v] rfl rfl (by simp [RdAt.one hv]; rfl) tS27 fun A H1 hS => ?_
  repeat first | (with_reducible first | refine Wp.seq ?_ | refine Wp.reg ?_ | refine Wp.block ?_ | refine Wp.skip ?_ | refine Wp.ret ?_ | refine Wp.exit ?_ | refine Wp.label ?_ | refine Wp.condG ?_) | simp (disch := omega) only [↓RP, RQ, TS, TR, ↓reduceIte, Nat.reduceEqDiff, Nat.reduceLT, Nat.reduceLeDiff, Int.reduceLT, Int.reduceLE, Int.reduceEq, Int.reduceAdd, Int.reduceSub, Int.reduceNeg, Int.reduceToNat, Nat.reduceAdd, Nat.reduceMul, Nat.reduceSub, reduceCtorEq, RC, Int.cast_ofNat_Int, hn, g0]
  refine hS.eNew 2 [I 0, .slice none 0 0] rfl rfl rfl tS27 fun R H2 hS => ?_
  repeat first | (with_reducible first | refine Wp.seq ?_ | refine Wp.reg ?_ | refine Wp.block ?_ | refine Wp.skip ?_ | refine Wp.ret ?_ | refine Wp.exit ?_ | refine Wp.label ?_ | refine Wp.condG ?_) | simp (disch := omega) only [↓RP, RQ, TS, TR, ↓reduceIte, Nat.reduceEqDiff, Nat.reduceLT, Nat.reduceLeDiff, Int.reduceLT, Int.reduceLE, Int.reduceEq, Int.reduceAdd, Int.reduceSub, Int.reduceNeg, Int.reduceToNat, Nat.reduceAdd, Nat.reduceMul, Nat.reduceSub, reduceCtorEq, RC, Int.cast_ofNat_Int, hn, g0, hS.ldA 0 rfl]
  refine callFW_of (checkZ_ok N v es (hS.base hv) he) ?_
  rintro r H3 ⟨rfl, hS2⟩
  have hS := hS.trans hS2
  simp only [List.nil_append, List.cons_append, List.append_nil, List.set_cons_zero, List.set_cons_succ, setMany_cons, setMany_nil, Nat.zero_add, Nat.mul_one, Nat.add_zero] at hS
  generalize chk N es = e at hc ⊢
  repeat first | (with_reducible first | refine Wp.seq ?_ | refine Wp.reg ?_ | refine Wp.block ?_ | refine Wp.skip ?_ | refine Wp.ret ?_ | refine Wp.exit ?_ | refine Wp.label ?_ | refine Wp.condG ?_) | simp (disch := omega) only [↓RP, RQ, TS, TR, ↓reduceIte, Nat.reduceEqDiff, Nat.reduceLT, Nat.reduceLeDiff, Int.reduceLT, Int.reduceLE, Int.reduceEq, Int.reduceAdd, Int.reduceSub, Int.reduceNeg, Int.reduceToNat, Nat.reduceAdd, Nat.reduceMul, Nat.reduceSub, reduceCtorEq, RC, Int.cast_ofNat_Int, hn, g0]
  refine condW_split (fun h => ?_) (fun h => absurd hc h)
  repeat first | (with_reducible first | refine Wp.seq ?_ | refine Wp.reg ?_ | refine Wp.block ?_ | refine Wp.skip ?_ | refine Wp.ret ?_ | refine Wp.exit ?_ | refine Wp.label ?_ | refine Wp.condG ?_) | simp (disch := omega) only [↓RP, RQ, TS, TR, ↓reduceIte, Nat.reduceEqDiff, Nat.reduceLT, Nat.reduceLeDiff, Int.reduceLT, Int.reduceLE, Int.reduceEq, Int.reduceAdd, Int.reduceSub, Int.reduceNeg, Int.reduceToNat, Nat.reduceAdd, Nat.reduceMul, Nat.reduceSub, reduceCtorEq, RC, Int.cast_ofNat_Int, hn, g0, tB27n]
  refine hS.eStore 1 rfl [I 0, .slice none 0 0] rfl rfl tS27 (by simp) fun H5 hS => ?_
  simp only [List.nil_append, List.cons_append, List.append_nil, List.set_cons_zero, List.set_cons_succ, setMany_cons, setMany_nil, Nat.zero_add, Nat.mul_one, Nat.add_zero] at hS
  repeat first | (with_reducible first | refine Wp.seq ?_ | refine Wp.reg ?_ | refine Wp.block ?_ | refine Wp.skip ?_ | refine Wp.ret ?_ | refine Wp.exit ?_ | refine Wp.label ?_ | refine Wp.condG ?_) | simp (disch := omega) only [↓RP, RQ, TS, TR, ↓reduceIte, Nat.reduceEqDiff, Nat.reduceLT, Nat.reduceLeDiff, Int.reduceLT, Int.reduceLE, Int.reduceEq, Int.reduceAdd, Int.reduceSub, Int.reduceNeg, Int.reduceToNat, Nat.reduceAdd, Nat.reduceMul, Nat.reduceSub, reduceCtorEq, RC, Int.cast_ofNat_Int, hn, g0, tR27, hS.ldA 1 rfl]
  exact hS.forget

theorem longestZ_ok (N : Int) (v : Value) (es : List (Int × Int)) (hv : EgZ H v es) (he : es.length < 1000000) (hc : chk N es ≠ 0) : Fn Try.prog 22 [.agg #[I N, v]] H fun r H' => r = .tuple #[.slice none 0 0, I (chk N es)] ∧ St Try.prog H H' [] := by
  refine Fn.of_wp (fn := Try.f22) rfl rfl (by kernel_rfl) fun l hl => ?_
  have hn : l.length = 53 := by rw [hl]; rfl
  have g0 : get l 0 = .agg #[I N, v] := by rw [hl]; rfl
  clear hl
  repeat first | (with_reducible first | refine Wp.seq ?_ | refine Wp.reg ?_ | refine Wp.block ?_ | refine Wp.skip ?_ | refine Wp.ret ?_ | refine Wp.exit ?_ | refine Wp.label ?_ | refine Wp.condG ?_) | simp (disch := omega) only [↓RP, RQ, TS, TR, ↓reduceIte, Nat.reduceEqDiff, Nat.reduceLT, Nat.reduceLeDiff, Int.reduceLT, Int.reduceLE, Int.reduceEq, Int.reduceAdd, Int.reduceSub, Int.reduceNeg, Int.reduceToNat, Nat.reduceAdd, Nat.reduceMul, Nat.reduceSub, reduceCtorEq, RC, Int.cast_ofNat_Int, hn, g0]
  refine (St.refl _ H).eNew 2 [I N, v] rfl rfl (by simp [RdAt.one hv]; rfl) tS27 fun A H1 hS => ?_
  repeat first | (with_reducible first | refine Wp.seq ?_ | refine Wp.reg ?_ | refine Wp.block ?_ | refine Wp.skip ?_ | refine Wp.ret ?_ | refine Wp.exit ?_ | refine Wp.label ?_ | refine Wp.condG ?_) | simp (disch := omega) only [↓RP, RQ, TS, TR, ↓reduceIte, Nat.reduceEqDiff, Nat.reduceLT, Nat.reduceLeDiff, Int.reduceLT, Int.reduceLE, Int.reduceEq, Int.reduceAdd, Int.reduceSub, Int.reduceNeg, Int.reduceToNat, Nat.reduceAdd, Nat.reduceMul, Nat.reduceSub, reduceCtorEq, RC, Int.cast_ofNat_Int, hn, g0, hS.ldA 0 rfl]
  refine callFW_of (orderZ_ok N v es (hS.base hv) he hc) ?_
  rintro r H2 ⟨rfl, hS2⟩
  have hS := hS.trans hS2
  generalize chk N es = e at hc ⊢
  repeat first | (with_reducible first | refine Wp.seq ?_ | refine Wp.reg ?_ | refine Wp.block ?_ | refine Wp.skip ?_ | refine Wp.ret ?_ | refine Wp.exit ?_ | refine Wp.label ?_ | refine Wp.condG ?_) | simp (disch := omega) only [↓RP, RQ, TS, TR, ↓reduceIte, Nat.reduceEqDiff, Nat.reduceLT, Nat.reduceLeDiff, Int.reduceLT, Int.reduceLE, Int.reduceEq, Int.reduceAdd, Int.reduceSub, Int.reduceNeg, Int.reduceToNat, Nat.reduceAdd, Nat.reduceMul, Nat.reduceSub, reduceCtorEq, RC, Int.cast_ofNat_Int, hn, g0]
  refine condW_split (fun h => ?_) (fun h => absurd hc h)
  repeat first | (with_reducible first | refine Wp.seq ?_ | refine Wp.reg ?_ | refine Wp.block ?_ | refine Wp.skip ?_ | refine Wp.ret ?_ | refine Wp.exit ?_ | refine Wp.label ?_ | refine Wp.condG ?_) | simp (disch := omega) only [↓RP, RQ, TS, TR, ↓reduceIte, Nat.reduceEqDiff, Nat.reduceLT, Nat.reduceLeDiff, Int.reduceLT, Int.reduceLE, Int.reduceEq, Int.reduceAdd, Int.reduceSub, Int.reduceNeg, Int.reduceToNat, Nat.reduceAdd, Nat.reduceMul, Nat.reduceSub, reduceCtorEq, RC, Int.cast_ofNat_Int, hn, g0]
  exact hS.forget

theorem neededZ_ok (N : Int) (v : Value) (es : List (Int × Int)) (hv : EgZ H v es) (he : es.length < 1000000) (hc : chk N es ≠ 0) : Fn Try.prog 29 [.agg #[I N, v]] H fun r H' => r = .tuple #[.slice none 0 0, I (chk N es)] ∧ St Try.prog H H' [] := by
  refine Fn.of_wp (fn := Try.f29) rfl rfl (by kernel_rfl) fun l hl => ?_
  have hn : l.length = 78 := by rw [hl]; rfl
  have g0 : get l 0 = .agg #[I N, v] := by rw [hl]; rfl
  clear hl
  repeat first | (with_reducible first | refine Wp.seq ?_ | refine Wp.reg ?_ | refine Wp.block ?_ | refine Wp.skip ?_ | refine Wp.ret ?_ | refine Wp.exit ?_ | refine Wp.label ?_ | refine Wp.condG ?_) | simp (disch := omega) only [↓RP, RQ, TS, TR, ↓reduceIte, Nat.reduceEqDiff, Nat.reduceLT, Nat.reduceLeDiff, Int.reduceLT, Int.reduceLE, Int.reduceEq, Int.reduceAdd, Int.reduceSub, Int.reduceNeg, Int.reduceToNat, Nat.reduceAdd, Nat.reduceMul, Nat.reduceSub, reduceCtorEq, RC, Int.cast_ofNat_Int, hn, g0]
  refine (St.refl _ H).eNew 2 [I N, v] rfl rfl (by simp [RdAt.one hv]; rfl) tS27 fun A H1 hS => ?_
  repeat first | (with_reducible first | refine Wp.seq ?_ | refine Wp.reg ?_ | refine Wp.block ?_ | refine Wp.skip ?_ | refine Wp.ret ?_ | refine Wp.exit ?_ | refine Wp.label ?_ | refine Wp.condG ?_) | simp (disch := omega) only [↓RP, RQ, TS, TR, ↓reduceIte, Nat.reduceEqDiff, Nat.reduceLT, Nat.reduceLeDiff, Int.reduceLT, Int.reduceLE, Int.reduceEq, Int.reduceAdd, Int.reduceSub, Int.reduceNeg, Int.reduceToNat, Nat.reduceAdd, Nat.reduceMul, Nat.reduceSub, reduceCtorEq, RC, Int.cast_ofNat_Int, hn, g0, hS.ldA 0 rfl]
  refine callFW_of (orderZ_ok N v es (hS.base hv) he hc) ?_
  rintro r H2 ⟨rfl, hS2⟩
  have hS := hS.trans hS2
  generalize chk N es = e at hc ⊢
  repeat first | (with_reducible first | refine Wp.seq ?_ | refine Wp.reg ?_ | refine Wp.block ?_ | refine Wp.skip ?_ | refine Wp.ret ?_ | refine Wp.exit ?_ | refine Wp.label ?_ | refine Wp.condG ?_) | simp (disch := omega) only [↓RP, RQ, TS, TR, ↓reduceIte, Nat.reduceEqDiff, Nat.reduceLT, Nat.reduceLeDiff, Int.reduceLT, Int.reduceLE, Int.reduceEq, Int.reduceAdd, Int.reduceSub, Int.reduceNeg, Int.reduceToNat, Nat.reduceAdd, Nat.reduceMul, Nat.reduceSub, reduceCtorEq, RC, Int.cast_ofNat_Int, hn, g0]
  refine condW_split (fun h => ?_) (fun h => absurd hc h)
  repeat first | (with_reducible first | refine Wp.seq ?_ | refine Wp.reg ?_ | refine Wp.block ?_ | refine Wp.skip ?_ | refine Wp.ret ?_ | refine Wp.exit ?_ | refine Wp.label ?_ | refine Wp.condG ?_) | simp (disch := omega) only [↓RP, RQ, TS, TR, ↓reduceIte, Nat.reduceEqDiff, Nat.reduceLT, Nat.reduceLeDiff, Int.reduceLT, Int.reduceLE, Int.reduceEq, Int.reduceAdd, Int.reduceSub, Int.reduceNeg, Int.reduceToNat, Nat.reduceAdd, Nat.reduceMul, Nat.reduceSub, reduceCtorEq, RC, Int.cast_ofNat_Int, hn, g0]
  exact hS.forget

theorem distanceZ_ok (N : Int) (v : Value) (es : List (Int × Int)) (hv : EgZ H v es) (he : es.length < 1000000) (x : Int) (hc : chk2 N es [x] ≠ 0) : Fn Try.prog 26 [.agg #[I N, v], I x] H fun r H' => r = .tuple #[.slice none 0 0, I (chk2 N es [x])] ∧ St Try.prog H H' [] := by
  refine Fn.of_wp (fn := Try.f26) rfl rfl (by kernel_rfl) fun l hl => ?_
  have hn : l.length = 17 := by rw [hl]; rfl
  have g0 : get l 0 = .agg #[I N, v] := by rw [hl]; rfl
  have g1 : get l 1 = I x := by rw [hl]; rfl
  clear hl
  repeat first | (with_reducible first | refine Wp.seq ?_ | refine Wp.reg ?_ | refine Wp.block ?_ | refine Wp.skip ?_ | refine Wp.ret ?_ | refine Wp.exit ?_ | refine Wp.label ?_ | refine Wp.condG ?_) | simp (disch := omega) only [↓RP, RQ, TS, TR, ↓reduceIte, Nat.reduceEqDiff, Nat.reduceLT, Nat.reduceLeDiff, Int.reduceLT, Int.reduceLE, Int.reduceEq, Int.reduceAdd, Int.reduceSub, Int.reduceNeg, Int.reduceToNat, Nat.reduceAdd, Nat.reduceMul, Nat.reduceSub, reduceCtorEq, RC, Int.cast_ofNat_Int, hn, g0, g1]
  refine (St.refl _ H).eNew 2 [I N, v] rfl rfl (by simp [RdAt.one hv]; rfl) tS27 fun A H1 hS => ?_
  repeat first | (with_reducible first | refine Wp.seq ?_ | refine Wp.reg ?_ | refine Wp.block ?_ | refine Wp.skip ?_ | refine Wp.ret ?_ | refine Wp.exit ?_ | refine Wp.label ?_ | refine Wp.condG ?_) | simp (disch := omega) only [↓RP, RQ, TS, TR, ↓reduceIte, Nat.reduceEqDiff, Nat.reduceLT, Nat.reduceLeDiff, Int.reduceLT, Int.reduceLE, Int.reduceEq, Int.reduceAdd, Int.reduceSub, Int.reduceNeg, Int.reduceToNat, Nat.reduceAdd, Nat.reduceMul, Nat.reduceSub, reduceCtorEq, RC, Int.cast_ofNat_Int, hn, g0, g1, hS.ldA 0 rfl]
  refine hS.eSlice [I x] tP29 tF29 rfl rfl (by simp [Value.cells]) rfl rfl (by decide) (by decide) fun w H2 hS => ?_
  repeat first | (with_reducible first | refine Wp.seq ?_ | refine Wp.reg ?_ | refine Wp.block ?_ | refine Wp.skip ?_ | refine Wp.ret ?_ | refine Wp.exit ?_ | refine Wp.label ?_ | refine Wp.condG ?_) | simp (disch := omega) only [↓RP, RQ, TS, TR, ↓reduceIte, Nat.reduceEqDiff, Nat.reduceLT, Nat.reduceLeDiff, Int.reduceLT, Int.reduceLE, Int.reduceEq, Int.reduceAdd, Int.reduceSub, Int.reduceNeg, Int.reduceToNat, Nat.reduceAdd, Nat.reduceMul, Nat.reduceSub, reduceCtorEq, RC, Int.cast_ofNat_Int, hn, g0, g1]
  refine callFW_of (withZ_ok N v es (hS.base hv) he w [x] (hS.rd 1 rfl) (by simp)) ?_
  rintro r H3 ⟨rfl, hS2⟩
  have hS := hS.trans hS2
  generalize chk2 N es [x] = e at hc ⊢
  repeat first | (with_reducible first | refine Wp.seq ?_ | refine Wp.reg ?_ | refine Wp.block ?_ | refine Wp.skip ?_ | refine Wp.ret ?_ | refine Wp.exit ?_ | refine Wp.label ?_ | refine Wp.condG ?_) | simp (disch := omega) only [↓RP, RQ, TS, TR, ↓reduceIte, Nat.reduceEqDiff, Nat.reduceLT, Nat.reduceLeDiff, Int.reduceLT, Int.reduceLE, Int.reduceEq, Int.reduceAdd, Int.reduceSub, Int.reduceNeg, Int.reduceToNat, Nat.reduceAdd, Nat.reduceMul, Nat.reduceSub, reduceCtorEq, RC, Int.cast_ofNat_Int, hn, g0, g1]
  refine condW_split (fun h => ?_) (fun h => absurd hc h)
  repeat first | (with_reducible first | refine Wp.seq ?_ | refine Wp.reg ?_ | refine Wp.block ?_ | refine Wp.skip ?_ | refine Wp.ret ?_ | refine Wp.exit ?_ | refine Wp.label ?_ | refine Wp.condG ?_) | simp (disch := omega) only [↓RP, RQ, TS, TR, ↓reduceIte, Nat.reduceEqDiff, Nat.reduceLT, Nat.reduceLeDiff, Int.reduceLT, Int.reduceLE, Int.reduceEq, Int.reduceAdd, Int.reduceSub, Int.reduceNeg, Int.reduceToNat, Nat.reduceAdd, Nat.reduceMul, Nat.reduceSub, reduceCtorEq, RC, Int.cast_ofNat_Int, hn, g0, g1]
  exact hS.forget

theorem pathZ_ok (N : Int) (v : Value) (es : List (Int × Int)) (hv : EgZ H v es) (he : es.length < 1000000) (x y : Int) (hc : chk2 N es [x, y] ≠ 0) : Fn Try.prog 14 [.agg #[I N, v], I x, I y] H fun r H' => r = .tuple #[.slice none 0 0, .bool false, I (chk2 N es [x, y])] ∧ St Try.prog H H' [] := by
  refine Fn.of_wp (fn := Try.f14) rfl rfl (by kernel_rfl) fun l hl => ?_
  have hn : l.length = 27 := by rw [hl]; rfl
  have g0 : get l 0 = .agg #[I N, v] := by rw [hl]; rfl
  have g1 : get l 1 = I x := by rw [hl]; rfl
  have g2 : get l 2 = I y := by rw [hl]; rfl
  clear hl
  repeat first | (with_reducible first | refine Wp.seq ?_ | refine Wp.reg ?_ | refine Wp.block ?_ | refine Wp.skip ?_ | refine Wp.ret ?_ | refine Wp.exit ?_ | refine Wp.label ?_ | refine Wp.condG ?_) | simp (disch := omega) only [↓RP, RQ, TS, TR, ↓reduceIte, Nat.reduceEqDiff, Nat.reduceLT, Nat.reduceLeDiff, Int.reduceLT, Int.reduceLE, Int.reduceEq, Int.reduceAdd, Int.reduceSub, Int.reduceNeg, Int.reduceToNat, Nat.reduceAdd, Nat.reduceMul, Nat.reduceSub, reduceCtorEq, RC, Int.cast_ofNat_Int, hn, g0, g1, g2]
  refine (St.refl _ H).eNew 2 [I N, v] rfl rfl (by simp [RdAt.one hv]; rfl) tS27 fun A H1 hS => ?_
  repeat first | (with_reducible first | refine Wp.seq ?_ | refine Wp.reg ?_ | refine Wp.block ?_ | refine Wp.skip ?_ | refine Wp.ret ?_ | refine Wp.exit ?_ | refine Wp.label ?_ | refine Wp.condG ?_) | simp (disch := omega) only [↓RP, RQ, TS, TR, ↓reduceIte, Nat.reduceEqDiff, Nat.reduceLT, Nat.reduceLeDiff, Int.reduceLT, Int.reduceLE, Int.reduceEq, Int.reduceAdd, Int.reduceSub, Int.reduceNeg, Int.reduceToNat, Nat.reduceAdd, Nat.reduceMul, Nat.reduceSub, reduceCtorEq, RC, Int.cast_ofNat_Int, hn, g0, g1, g2, hS.ldA 0 rfl]
  refine hS.eSlice [I x, I y] tP29 tF29 rfl rfl (by simp [Value.cells]) rfl rfl (by decide) (by decide) fun w H2 hS => ?_
  repeat first | (with_reducible first | refine Wp.seq ?_ | refine Wp.reg ?_ | refine Wp.block ?_ | refine Wp.skip ?_ | refine Wp.ret ?_ | refine Wp.exit ?_ | refine Wp.label ?_ | refine Wp.condG ?_) | simp (disch := omega) only [↓RP, RQ, TS, TR, ↓reduceIte, Nat.reduceEqDiff, Nat.reduceLT, Nat.reduceLeDiff, Int.reduceLT, Int.reduceLE, Int.reduceEq, Int.reduceAdd, Int.reduceSub, Int.reduceNeg, Int.reduceToNat, Nat.reduceAdd, Nat.reduceMul, Nat.reduceSub, reduceCtorEq, RC, Int.cast_ofNat_Int, hn, g0, g1, g2]
  refine callFW_of (withZ_ok N v es (hS.base hv) he w [x, y] (hS.rd 1 rfl) (by simp)) ?_
  rintro r H3 ⟨rfl, hS2⟩
  have hS := hS.trans hS2
  generalize chk2 N es [x, y] = e at hc ⊢
  repeat first | (with_reducible first | refine Wp.seq ?_ | refine Wp.reg ?_ | refine Wp.block ?_ | refine Wp.skip ?_ | refine Wp.ret ?_ | refine Wp.exit ?_ | refine Wp.label ?_ | refine Wp.condG ?_) | simp (disch := omega) only [↓RP, RQ, TS, TR, ↓reduceIte, Nat.reduceEqDiff, Nat.reduceLT, Nat.reduceLeDiff, Int.reduceLT, Int.reduceLE, Int.reduceEq, Int.reduceAdd, Int.reduceSub, Int.reduceNeg, Int.reduceToNat, Nat.reduceAdd, Nat.reduceMul, Nat.reduceSub, reduceCtorEq, RC, Int.cast_ofNat_Int, hn, g0, g1, g2]
  refine condW_split (fun h => ?_) (fun h => absurd hc h)
  repeat first | (with_reducible first | refine Wp.seq ?_ | refine Wp.reg ?_ | refine Wp.block ?_ | refine Wp.skip ?_ | refine Wp.ret ?_ | refine Wp.exit ?_ | refine Wp.label ?_ | refine Wp.condG ?_) | simp (disch := omega) only [↓RP, RQ, TS, TR, ↓reduceIte, Nat.reduceEqDiff, Nat.reduceLT, Nat.reduceLeDiff, Int.reduceLT, Int.reduceLE, Int.reduceEq, Int.reduceAdd, Int.reduceSub, Int.reduceNeg, Int.reduceToNat, Nat.reduceAdd, Nat.reduceMul, Nat.reduceSub, reduceCtorEq, RC, Int.cast_ofNat_Int, hn, g0, g1, g2]
  exact hS.forget

theorem reachZ_ok (N : Int) (v : Value) (es : List (Int × Int)) (hv : EgZ H v es) (he : es.length < 1000000) (x : Int) (hc : chk2 N es [x] ≠ 0) : Fn Try.prog 25 [.agg #[I N, v], I x] H fun r H' => r = .tuple #[.slice none 0 0, I (chk2 N es [x])] ∧ St Try.prog H H' [] := by
  refine Fn.of_wp (fn := Try.f25) rfl rfl (by kernel_rfl) fun l hl => ?_
  have hn : l.length = 33 := by rw [hl]; rfl
  have g0 : get l 0 = .agg #[I N, v] := by rw [hl]; rfl
  have g1 : get l 1 = I x := by rw [hl]; rfl
  clear hl
  repeat first | (with_reducible first | refine Wp.seq ?_ | refine Wp.reg ?_ | refine Wp.block ?_ | refine Wp.skip ?_ | refine Wp.ret ?_ | refine Wp.exit ?_ | refine Wp.label ?_ | refine Wp.condG ?_) | simp (disch := omega) only [↓RP, RQ, TS, TR, ↓reduceIte, Nat.reduceEqDiff, Nat.reduceLT, Nat.reduceLeDiff, Int.reduceLT, Int.reduceLE, Int.reduceEq, Int.reduceAdd, Int.reduceSub, Int.reduceNeg, Int.reduceToNat, Nat.reduceAdd, Nat.reduceMul, Nat.reduceSub, reduceCtorEq, RC, Int.cast_ofNat_Int, hn, g0, g1]
  refine (St.refl _ H).eNew 2 [I N, v] rfl rfl (by simp [RdAt.one hv]; rfl) tS27 fun A H1 hS => ?_
  repeat first | (with_reducible first | refine Wp.seq ?_ | refine Wp.reg ?_ | refine Wp.block ?_ | refine Wp.skip ?_ | refine Wp.ret ?_ | refine Wp.exit ?_ | refine Wp.label ?_ | refine Wp.condG ?_) | simp (disch := omega) only [↓RP, RQ, TS, TR, ↓reduceIte, Nat.reduceEqDiff, Nat.reduceLT, Nat.reduceLeDiff, Int.reduceLT, Int.reduceLE, Int.reduceEq, Int.reduceAdd, Int.reduceSub, Int.reduceNeg, Int.reduceToNat, Nat.reduceAdd, Nat.reduceMul, Nat.reduceSub, reduceCtorEq, RC, Int.cast_ofNat_Int, hn, g0, g1, hS.ldA 0 rfl]
  refine callFW_of (distanceZ_ok N v es (hS.base hv) he x hc) ?_
  rintro r H3 ⟨rfl, hS2⟩
  have hS := (hS.trans hS2).nil 0
  simp only [List.nil_append, List.cons_append, List.append_nil, List.set_cons_zero, List.set_cons_succ, setMany_cons, setMany_nil, Nat.zero_add, Nat.mul_one, Nat.add_zero] at hS
  generalize chk2 N es [x] = e at hc ⊢
  have hnil : Sl1 H3 (.slice none 0 0) (fun n : Nat => I n) [] := hS.rd 1 rfl
  repeat first | (with_reducible first | refine Wp.seq ?_ | refine Wp.reg ?_ | refine Wp.block ?_ | refine Wp.skip ?_ | refine Wp.ret ?_ | refine Wp.exit ?_ | refine Wp.label ?_ | refine Wp.condG ?_) | simp (disch := omega) only [↓RP, RQ, TS, TR, ↓reduceIte, Nat.reduceEqDiff, Nat.reduceLT, Nat.reduceLeDiff, Int.reduceLT, Int.reduceLE, Int.reduceEq, Int.reduceAdd, Int.reduceSub, Int.reduceNeg, Int.reduceToNat, Nat.reduceAdd, Nat.reduceMul, Nat.reduceSub, reduceCtorEq, RC, Int.cast_ofNat_Int, hn, g0, g1, hnil.len]
  refine Wp.loopN (fun n l H' => H' = H3 ∧ l.length = 33 ∧ get l 7 = I e ∧ get l 8 = .slice none 0 0 ∧ get l 18 = I 0 ∧ get l 19 = I 0) 0 ?_ ?_
  · repeat first | (with_reducible first | refine Wp.seq ?_ | refine Wp.reg ?_ | refine Wp.block ?_ | refine Wp.skip ?_ | refine Wp.ret ?_ | refine Wp.exit ?_ | refine Wp.label ?_ | refine Wp.condG ?_) | simp (disch := omega) only [↓RP, RQ, TS, TR, ↓reduceIte, Nat.reduceEqDiff, Nat.reduceLT, Nat.reduceLeDiff, Int.reduceLT, Int.reduceLE, Int.reduceEq, Int.reduceAdd, Int.reduceSub, Int.reduceNeg, Int.reduceToNat, Nat.reduceAdd, Nat.reduceMul, Nat.reduceSub, reduceCtorEq, RC, Int.cast_ofNat_Int, hn, g0, g1]
  clear hn g0 g1
  rintro n l H' ⟨rfl, hn, g7, g8, g18, g19⟩
  repeat first | (with_reducible first | refine Wp.seq ?_ | refine Wp.reg ?_ | refine Wp.block ?_ | refine Wp.skip ?_ | refine Wp.ret ?_ | refine Wp.exit ?_ | refine Wp.label ?_ | refine Wp.condG ?_) | simp (disch := omega) only [↓RP, RQ, TS, TR, ↓reduceIte, Nat.reduceEqDiff, Nat.reduceLT, Nat.reduceLeDiff, Int.reduceLT, Int.reduceLE, Int.reduceEq, Int.reduceAdd, Int.reduceSub, Int.reduceNeg, Int.reduceToNat, Nat.reduceAdd, Nat.reduceMul, Nat.reduceSub, reduceCtorEq, RC, Int.cast_ofNat_Int, hn, g7, g8, g18, g19]
  exact hS.forget
end Go.Ds
/-
  Contracts: simple, Condense.
-/
namespace Go.Ds
open Go.Proofs Go.Plain
variable {H : Heap}

/-- Different edges in order. -/
def sd (es : List (Nat × Nat)) : List (Nat × Nat) := dd (srt es) (srt es).length

theorem tB27s (n : Int) (a : Option Addr) (m c : Nat) : builtV Try.prog 27 [(0, I n), (1, .slice a m c)] = some (.agg #[I n, .slice a m c]) := by kernel_rfl
theorem RdAt.isSlice {v : Value} {size : Nat} {cs : List Value} (h : RdAt H v size cs) : ∃ a m c, v = .slice a m c := by
  rcases h with ⟨rfl, rfl⟩ | ⟨A, i, e, row, ty, rw, lo, ver, n, h1, h2, h3, h4, h5, h6, rfl⟩ <;> exact ⟨_, _, _, rfl⟩

theorem simple_ok {H0 : Base} {os : List Ob} {v : Value} {es : List (Nat × Nat)} (n : Int) (hS : St Try.prog H0 H (⟨v, 2, eg es⟩ :: os)) (hl : es.length < 1000000) (hb : ∀ e ∈ es, e.1 < 256 ∧ e.2 < 256) :
    Fn Try.prog 46 [I n, v] H fun r H' => ∃ (w : Value) (rest : List Value), (∀ H2, RdAt H2 v 2 (eg (sd es) ++ rest) → RdAt H2 w 2 (eg (sd es))) ∧ r = .agg #[I n, w] ∧ St Try.prog H0 H' (⟨v, 2, eg (sd es) ++ rest⟩ :: os) := by
  refine Fn.of_wp (fn := Try.f46) rfl rfl (by kernel_rfl) fun l hl => ?_
  have hn : l.length = 11 := by rw [hl]; rfl
  have g0 : get l 0 = I n := by rw [hl]; rfl
  have g1 : get l 1 = v := by rw [hl]; rfl
  clear hl
  repeat first | (with_reducible first | refine Wp.seq ?_ | refine Wp.reg ?_ | refine Wp.block ?_ | refine Wp.skip ?_ | refine Wp.ret ?_ | refine Wp.exit ?_ | refine Wp.label ?_ | refine Wp.condG ?_) | simp (disch := omega) only [↓RP, RQ, TS, TR, ↓reduceIte, Nat.reduceEqDiff, Nat.reduceLT, Nat.reduceLeDiff, Int.reduceLT, Int.reduceLE, Int.reduceEq, Int.reduceAdd, Int.reduceSub, Int.reduceNeg, Int.reduceToNat, Nat.reduceAdd, Nat.reduceMul, Nat.reduceSub, reduceCtorEq, RC, Int.cast_ofNat_Int, hn, g0, g1]
  refine hS.eNew 2 [I 0, .slice none 0 0] rfl rfl rfl tS27 fun B H2 hS => ?_
  have hS := hS.front.perm (List.Perm.swap _ _ _)
  repeat first | (with_reducible first | refine Wp.seq ?_ | refine Wp.reg ?_ | refine Wp.block ?_ | refine Wp.skip ?_ | refine Wp.ret ?_ | refine Wp.exit ?_ | refine Wp.label ?_ | refine Wp.condG ?_) | simp (disch := omega) only [↓RP, RQ, TS, TR, ↓reduceIte, Nat.reduceEqDiff, Nat.reduceLT, Nat.reduceLeDiff, Int.reduceLT, Int.reduceLE, Int.reduceEq, Int.reduceAdd, Int.reduceSub, Int.reduceNeg, Int.reduceToNat, Nat.reduceAdd, Nat.reduceMul, Nat.reduceSub, reduceCtorEq, RC, Int.cast_ofNat_Int, hn, g0, g1]
  refine sortE_ok hS 0 rfl hb hl fun H3 hS => ?_
  simp only [List.nil_append, List.cons_append, List.append_nil, List.set_cons_zero, List.set_cons_succ, setMany_cons, setMany_nil, Nat.zero_add, Nat.mul_one, Nat.add_zero] at hS
  repeat first | (with_reducible first | refine Wp.seq ?_ | refine Wp.reg ?_ | refine Wp.block ?_ | refine Wp.skip ?_ | refine Wp.ret ?_ | refine Wp.exit ?_ | refine Wp.label ?_ | refine Wp.condG ?_) | simp (disch := omega) only [↓RP, RQ, TS, TR, ↓reduceIte, Nat.reduceEqDiff, Nat.reduceLT, Nat.reduceLeDiff, Int.reduceLT, Int.reduceLE, Int.reduceEq, Int.reduceAdd, Int.reduceSub, Int.reduceNeg, Int.reduceToNat, Nat.reduceAdd, Nat.reduceMul, Nat.reduceSub, reduceCtorEq, RC, Int.cast_ofNat_Int, hn, g0, g1]
  refine callFW_of (compact_ok hS (by rw [(srt_perm hb).length_eq]; exact hl)) ?_
  rintro w H4 ⟨rest, hr, hS⟩
  obtain ⟨a, m, c, rfl⟩ := (hr H4 (hS.rd 0 rfl)).isSlice
  repeat first | (with_reducible first | refine Wp.seq ?_ | refine Wp.reg ?_ | refine Wp.block ?_ | refine Wp.skip ?_ | refine Wp.ret ?_ | refine Wp.exit ?_ | refine Wp.label ?_ | refine Wp.condG ?_) | simp (disch := omega) only [↓RP, RQ, TS, TR, ↓reduceIte, Nat.reduceEqDiff, Nat.reduceLT, Nat.reduceLeDiff, Int.reduceLT, Int.reduceLE, Int.reduceEq, Int.reduceAdd, Int.reduceSub, Int.reduceNeg, Int.reduceToNat, Nat.reduceAdd, Nat.reduceMul, Nat.reduceSub, reduceCtorEq, RC, Int.cast_ofNat_Int, hn, g0, g1, tB27s]
  refine hS.eStore 1 rfl [I n, .slice a m c] rfl rfl tS27 (by simp) fun H5 hS => ?_
  simp only [List.nil_append, List.cons_append, List.append_nil, List.set_cons_zero, List.set_cons_succ, setMany_cons, setMany_nil, Nat.zero_add, Nat.mul_one, Nat.add_zero] at hS
  repeat first | (with_reducible first | refine Wp.seq ?_ | refine Wp.reg ?_ | refine Wp.block ?_ | refine Wp.skip ?_ | refine Wp.ret ?_ | refine Wp.exit ?_ | refine Wp.label ?_ | refine Wp.condG ?_) | simp (disch := omega) only [↓RP, RQ, TS, TR, ↓reduceIte, Nat.reduceEqDiff, Nat.reduceLT, Nat.reduceLeDiff, Int.reduceLT, Int.reduceLE, Int.reduceEq, Int.reduceAdd, Int.reduceSub, Int.reduceNeg, Int.reduceToNat, Nat.reduceAdd, Nat.reduceMul, Nat.reduceSub, reduceCtorEq, RC, Int.cast_ofNat_Int, hn, g0, g1, hS.ldA 1 rfl]
  exact ⟨_, rest, hr, rfl, hS.sub (.cons_cons _ (.cons _ (.refl _)))⟩

/-- The edges between components, of the first edges. -/
def xe (ds : Nat → List Int) (N : Nat) (es : List (Nat × Nat)) : List (Nat × Nat) := (es.filter fun e => decide (cn ds N e.1 ≠ cn ds N e.2)).map fun e => ((cn ds N e.1).toNat, (cn ds N e.2).toNat)
theorem xe_le (ds : Nat → List Int) (N : Nat) (es : List (Nat × Nat)) : (xe ds N es).length ≤ es.length := by
  unfold xe
  rw [List.length_map]
  exact List.length_filter_le _ _
theorem xe_succ (ds : Nat → List Int) (N : Nat) (es : List (Nat × Nat)) (i : Nat) (hi : i < es.length) : xe ds N (es.take (i + 1)) = xe ds N (es.take i) ++
    (if cn ds N (es.getD i (0, 0)).1 ≠ cn ds N (es.getD i (0, 0)).2 then [((cn ds N (es.getD i (0, 0)).1).toNat, (cn ds N (es.getD i (0, 0)).2).toNat)] else []) := by
  unfold xe
  rw [take_succ_getD es i (0, 0) hi, List.filter_append, List.map_append]
  congr 1
  by_cases h : cn ds N (es.getD i (0, 0)).1 ≠ cn ds N (es.getD i (0, 0)).2
  · rw [if_pos h]
    simp only [List.filter_cons, List.filter_nil, decide_eq_true h, if_true, List.map_cons, List.map_nil]
  · rw [if_neg h]
    simp only [List.filter_cons, List.filter_nil, decide_eq_false h, Bool.false_eq_true, if_false, List.map_nil]
theorem lds_mono (ds : Nat → List Int) {i N : Nat} (h : i ≤ N) : (lds ds i).length ≤ (lds ds N).length := by
  obtain ⟨m, rfl⟩ : ∃ m, N = i + m := ⟨N - i, by omega⟩
  induction m with
  | zero => exact Nat.le_refl _
  | succ m ih =>
    rw [← Nat.add_assoc, lds_succ, List.length_append]
    have := ih (by omega)
    omega
theorem cn_range {ds : Nat → List Int} {N : Nat} (h : Eqv ds N) {k : Nat} (hk : k < N) : 0 ≤ cn ds N k ∧ cn ds N k < (lds ds N).length := by
  have h1 := ld_spec h hk
  unfold cn
  rw [if_pos (by omega)]
  have h2 := lds_mono ds (show ld ds k + 1 ≤ N by omega)
  rw [lds_succ, if_pos (ld_idem h hk), List.length_append, List.length_singleton] at h2
  omega

set_option maxHeartbeats 1000000 in
theorem condense_ok (N : Nat) (v : Value) (es : List (Nat × Nat)) (hv : Eg H v es) (h1N : 1 ≤ N) (hN : N ≤ 200) (he : es.length ≤ 1000) (hval : ∀ e ∈ es, e.1 < N ∧ e.2 < N) :
    Fn Try.prog 33 [.agg #[I N, v]] H fun r H' => ∃ (ds : Nat → List Int) (w : Value), IsT es N ds ∧ r = .tuple #[.agg #[I (lds ds N).length, w], I 0] ∧ ∃ (lv : Value) (rest : List Value), (∀ H2, RdAt H2 lv 2 (eg (sd (xe ds N es)) ++ rest) → RdAt H2 w 2 (eg (sd (xe ds N es)))) ∧ St Try.prog H H' [⟨lv, 2, eg (sd (xe ds N es)) ++ rest⟩] := by
  refine Fn.of_wp (fn := Try.f33) rfl rfl (by kernel_rfl) fun l hl => ?_
  have hn : l.length = 58 := by rw [hl]; rfl
  have g0 : get l 0 = .agg #[I N, v] := by rw [hl]; rfl
  clear hl
  repeat first | (with_reducible first | refine Wp.seq ?_ | refine Wp.reg ?_ | refine Wp.block ?_ | refine Wp.skip ?_ | refine Wp.ret ?_ | refine Wp.exit ?_ | refine Wp.label ?_ | refine Wp.condG ?_) | simp (disch := omega) only [↓RP, RQ, TS, TR, ↓reduceIte, Nat.reduceEqDiff, Nat.reduceLT, Nat.reduceLeDiff, Int.reduceLT, Int.reduceLE, Int.reduceEq, Int.reduceAdd, Int.reduceSub, Int.reduceNeg, Int.reduceToNat, Nat.reduceAdd, Nat.reduceMul, Nat.reduceSub, reduceCtorEq, RC, Int.cast_ofNat_Int, hn, g0]
  refine (St.refl _ H).eNew 2 [I N, v] rfl rfl (by simp [hv.one]; rfl) tS27 fun A H1 hS => ?_
  repeat first | (with_reducible first | refine Wp.seq ?_ | refine Wp.reg ?_ | refine Wp.block ?_ | refine Wp.skip ?_ | refine Wp.ret ?_ | refine Wp.exit ?_ | refine Wp.label ?_ | refine Wp.condG ?_) | simp (disch := omega) only [↓RP, RQ, TS, TR, ↓reduceIte, Nat.reduceEqDiff, Nat.reduceLT, Nat.reduceLeDiff, Int.reduceLT, Int.reduceLE, Int.reduceEq, Int.reduceAdd, Int.reduceSub, Int.reduceNeg, Int.reduceToNat, Nat.reduceAdd, Nat.reduceMul, Nat.reduceSub, reduceCtorEq, RC, Int.cast_ofNat_Int, hn, g0]
  refine hS.eNew 2 [I 0, .slice none 0 0] rfl rfl rfl tS27 fun R H2 hS => ?_
  repeat first | (with_reducible first | refine Wp.seq ?_ | refine Wp.reg ?_ | refine Wp.block ?_ | refine Wp.skip ?_ | refine Wp.ret ?_ | refine Wp.exit ?_ | refine Wp.label ?_ | refine Wp.condG ?_) | simp (disch := omega) only [↓RP, RQ, TS, TR, ↓reduceIte, Nat.reduceEqDiff, Nat.reduceLT, Nat.reduceLeDiff, Int.reduceLT, Int.reduceLE, Int.reduceEq, Int.reduceAdd, Int.reduceSub, Int.reduceNeg, Int.reduceToNat, Nat.reduceAdd, Nat.reduceMul, Nat.reduceSub, reduceCtorEq, RC, Int.cast_ofNat_Int, hn, g0, hS.ldA 0 rfl]
  refine callFW_of (check_ok N v es (hS.base hv) hN he hval) ?_
  rintro r H3 ⟨rfl, hS2⟩
  have hS := hS.trans hS2
  simp only [List.nil_append, List.cons_append, List.append_nil, List.set_cons_zero, List.set_cons_succ, setMany_cons, setMany_nil, Nat.zero_add, Nat.mul_one, Nat.add_zero] at hS
  repeat first | (with_reducible first | refine Wp.seq ?_ | refine Wp.reg ?_ | refine Wp.block ?_ | refine Wp.skip ?_ | refine Wp.ret ?_ | refine Wp.exit ?_ | refine Wp.label ?_ | refine Wp.condG ?_) | simp (disch := omega) only [↓RP, RQ, TS, TR, ↓reduceIte, Nat.reduceEqDiff, Nat.reduceLT, Nat.reduceLeDiff, Int.reduceLT, Int.reduceLE, Int.reduceEq, Int.reduceAdd, Int.reduceSub, Int.reduceNeg, Int.reduceToNat, Nat.reduceAdd, Nat.reduceMul, Nat.reduceSub, reduceCtorEq, RC, Int.cast_ofNat_Int, hn, g0, hS.ldA 0 rfl]
  refine callFW_of (members_ok N v es (hS.base hv) h1N hN he hval) ?_
  rintro r H4 ⟨ds, dv, ov, ws, hT, rfl, hS2⟩
  have hds := hT.1
  have hE := eqv_of hds
  have hS := ((hS.trans hS2).nil 1).front
  simp only [List.nil_append, List.cons_append, List.append_nil, List.set_cons_zero, List.set_cons_succ, setMany_cons, setMany_nil, Nat.zero_add, Nat.mul_one, Nat.add_zero] at hS
  have hv1 : Sl2 H4 v _ _ es := hS.base hv
  repeat first | (with_reducible first | refine Wp.seq ?_ | refine Wp.reg ?_ | refine Wp.block ?_ | refine Wp.skip ?_ | refine Wp.ret ?_ | refine Wp.exit ?_ | refine Wp.label ?_ | refine Wp.condG ?_) | simp (disch := omega) only [↓RP, RQ, TS, TR, ↓reduceIte, Nat.reduceEqDiff, Nat.reduceLT, Nat.reduceLeDiff, Int.reduceLT, Int.reduceLE, Int.reduceEq, Int.reduceAdd, Int.reduceSub, Int.reduceNeg, Int.reduceToNat, Nat.reduceAdd, Nat.reduceMul, Nat.reduceSub, reduceCtorEq, RC, Int.cast_ofNat_Int, hn, g0, hS.ld 1 rfl, hv1.len]
  refine Wp.loopN (fun n l H' => l.length = 58 ∧ get l 2 = ptr R 0 2 ∧ get l 5 = dv ∧ get l 6 = ov ∧ get l 22 = v ∧ get l 23 = I es.length ∧ ∃ (i : Nat) (lv : Value), n + i = es.length ∧ get l 24 = I i ∧ get l 7 = lv ∧
    St Try.prog H H' (⟨lv, 2, eg (xe ds N (es.take i))⟩ :: ⟨ptr A 0 2, 0, [I N, v]⟩ :: ⟨ptr R 0 2, 0, [I 0, .slice none 0 0]⟩ :: ⟨dv, 1, tb N (cn ds N)⟩ :: ⟨ov, 1, (List.range (lds ds N).length).map ws⟩ :: inner (lds ds N).length ws (gr ds N))) es.length ?_ ?_
  · repeat first | (with_reducible first | refine Wp.seq ?_ | refine Wp.reg ?_ | refine Wp.block ?_ | refine Wp.skip ?_ | refine Wp.ret ?_ | refine Wp.exit ?_ | refine Wp.label ?_ | refine Wp.condG ?_) | simp (disch := omega) only [↓RP, RQ, TS, TR, ↓reduceIte, Nat.reduceEqDiff, Nat.reduceLT, Nat.reduceLeDiff, Int.reduceLT, Int.reduceLE, Int.reduceEq, Int.reduceAdd, Int.reduceSub, Int.reduceNeg, Int.reduceToNat, Nat.reduceAdd, Nat.reduceMul, Nat.reduceSub, reduceCtorEq, RC, Int.cast_ofNat_Int, hn, g0]
    exact ⟨0, _, rfl, rfl, rfl, hS⟩
  clear hS hS2 hn g0 hv1
  rintro n l H' ⟨hn, g2, g5, g6, g22, g23, i, lv, hi, g24, g7, hS⟩
  have hv1 : Sl2 H' v _ _ es := hS.base hv
  repeat first | (with_reducible first | refine Wp.seq ?_ | refine Wp.reg ?_ | refine Wp.block ?_ | refine Wp.skip ?_ | refine Wp.ret ?_ | refine Wp.exit ?_ | refine Wp.label ?_ | refine Wp.condG ?_) | simp (disch := omega) only [↓RP, RQ, TS, TR, ↓reduceIte, Nat.reduceEqDiff, Nat.reduceLT, Nat.reduceLeDiff, Int.reduceLT, Int.reduceLE, Int.reduceEq, Int.reduceAdd, Int.reduceSub, Int.reduceNeg, Int.reduceToNat, Nat.reduceAdd, Nat.reduceMul, Nat.reduceSub, reduceCtorEq, RC, Int.cast_ofNat_Int, hn, g2, g5, g6, g7, g22, g23, g24]
  refine condW_split (fun h => ?_) (fun h => ?_)
  · have hil : i < es.length := by omega
    have hm := hval _ (getD_mem (0, 0) hil)
    have hsucc := xe_succ ds N es i hil
    have hxl := xe_le ds N (es.take i)
    rw [List.length_take] at hxl
    have c1 := cn_range hE hm.1
    have c2 := cn_range hE hm.2
    have hrl : (List.range N).length = N := List.length_range
    repeat first | (with_reducible first | refine Wp.seq ?_ | refine Wp.reg ?_ | refine Wp.block ?_ | refine Wp.skip ?_ | refine Wp.ret ?_ | refine Wp.exit ?_ | refine Wp.label ?_ | refine Wp.condG ?_) | simp (disch := omega) only [↓RP, RQ, TS, TR, ↓reduceIte, Nat.reduceEqDiff, Nat.reduceLT, Nat.reduceLeDiff, Int.reduceLT, Int.reduceLE, Int.reduceEq, Int.reduceAdd, Int.reduceSub, Int.reduceNeg, Int.reduceToNat, Nat.reduceAdd, Nat.reduceMul, Nat.reduceSub, reduceCtorEq, RC, Int.cast_ofNat_Int, hn, g2, g5, g6, g7, g22, g23, g24, hv1.idx, hv1.ldA (0, 0)]
    refine hS.eNew 2 [I 0, I 0] rfl rfl rfl tS48 fun C H5 hS => ?_
    have hS := hS.front
    repeat first | (with_reducible first | refine Wp.seq ?_ | refine Wp.reg ?_ | refine Wp.block ?_ | refine Wp.skip ?_ | refine Wp.ret ?_ | refine Wp.exit ?_ | refine Wp.label ?_ | refine Wp.condG ?_) | simp (disch := omega) only [↓RP, RQ, TS, TR, ↓reduceIte, Nat.reduceEqDiff, Nat.reduceLT, Nat.reduceLeDiff, Int.reduceLT, Int.reduceLE, Int.reduceEq, Int.reduceAdd, Int.reduceSub, Int.reduceNeg, Int.reduceToNat, Nat.reduceAdd, Nat.reduceMul, Nat.reduceSub, reduceCtorEq, RC, Int.cast_ofNat_Int, hn, g2, g5, g6, g7, g22, g23, g24]
    refine hS.eStore 0 rfl [_, _] rfl rfl tS48 (by simp) fun H6 hS => ?_
    simp only [List.nil_append, List.cons_append, List.append_nil, List.set_cons_zero, List.set_cons_succ, setMany_cons, setMany_nil, Nat.zero_add, Nat.mul_one, Nat.add_zero] at hS
    have hd : Sl1 H6 dv (fun k => I (cn ds N k)) (List.range N) := hS.rd 4 rfl
    repeat first | (with_reducible first | refine Wp.seq ?_ | refine Wp.reg ?_ | refine Wp.block ?_ | refine Wp.skip ?_ | refine Wp.ret ?_ | refine Wp.exit ?_ | refine Wp.label ?_ | refine Wp.condG ?_) | with_reducible refine Wp.drw hmix (by kernel_rfl) ?_ | simp (disch := omega) only [↓RP, RQ, TS, TR, ↓reduceIte, Nat.reduceEqDiff, Nat.reduceLT, Nat.reduceLeDiff, Int.reduceLT, Int.reduceLE, Int.reduceEq, Int.reduceAdd, Int.reduceSub, Int.reduceNeg, Int.reduceToNat, Nat.reduceAdd, Nat.reduceMul, Nat.reduceSub, reduceCtorEq, RC, Int.cast_ofNat_Int, hn, g2, g5, g6, g7, g22, g23, g24, hS.ld 0 rfl, hd.idx, hd.ld 0, getD_range]
    refine condW_split (fun h2 => ?_) (fun h2 => ?_)
    · rw [if_pos h2] at hsucc
      repeat first | (with_reducible first | refine Wp.seq ?_ | refine Wp.reg ?_ | refine Wp.block ?_ | refine Wp.skip ?_ | refine Wp.ret ?_ | refine Wp.exit ?_ | refine Wp.label ?_ | refine Wp.condG ?_) | with_reducible refine Wp.drw hmix (by kernel_rfl) ?_ | simp (disch := omega) only [↓RP, RQ, TS, TR, ↓reduceIte, Nat.reduceEqDiff, Nat.reduceLT, Nat.reduceLeDiff, Int.reduceLT, Int.reduceLE, Int.reduceEq, Int.reduceAdd, Int.reduceSub, Int.reduceNeg, Int.reduceToNat, Nat.reduceAdd, Nat.reduceMul, Nat.reduceSub, reduceCtorEq, RC, Int.cast_ofNat_Int, hn, g2, g5, g6, g7, g22, g23, g24, hS.ld 0 rfl, hd.idx, hd.ld 0, getD_range]
      refine hS.eSlice [I _, I _] tP25 tF25 rfl rfl (by simp [Value.cells]) rfl rfl (by decide) (by decide) fun x H7 hS => ?_
      have hS := hS.front
      repeat first | (with_reducible first | refine Wp.seq ?_ | refine Wp.reg ?_ | refine Wp.block ?_ | refine Wp.skip ?_ | refine Wp.ret ?_ | refine Wp.exit ?_ | refine Wp.label ?_ | refine Wp.condG ?_) | simp (disch := omega) only [↓RP, RQ, TS, TR, ↓reduceIte, Nat.reduceEqDiff, Nat.reduceLT, Nat.reduceLeDiff, Int.reduceLT, Int.reduceLE, Int.reduceEq, Int.reduceAdd, Int.reduceSub, Int.reduceNeg, Int.reduceToNat, Nat.reduceAdd, Nat.reduceMul, Nat.reduceSub, reduceCtorEq, RC, Int.cast_ofNat_Int, hn, g2, g5, g6, g7, g22, g23, g24]
      refine hS.eAppend 2 rfl (hS.rd 0 rfl) tP25 (by simp only [eg_length, List.length_cons, List.length_nil]; omega) fun lv' H8 hS => ?_
      simp only [List.nil_append, List.cons_append, List.append_nil, List.set_cons_zero, List.set_cons_succ, setMany_cons, setMany_nil, Nat.zero_add, Nat.mul_one, Nat.add_zero] at hS
      repeat first | (with_reducible first | refine Wp.seq ?_ | refine Wp.reg ?_ | refine Wp.block ?_ | refine Wp.skip ?_ | refine Wp.ret ?_ | refine Wp.exit ?_ | refine Wp.label ?_ | refine Wp.condG ?_) | simp (disch := omega) only [↓RP, RQ, TS, TR, ↓reduceIte, Nat.reduceEqDiff, Nat.reduceLT, Nat.reduceLeDiff, Int.reduceLT, Int.reduceLE, Int.reduceEq, Int.reduceAdd, Int.reduceSub, Int.reduceNeg, Int.reduceToNat, Nat.reduceAdd, Nat.reduceMul, Nat.reduceSub, reduceCtorEq, RC, Int.cast_ofNat_Int, hn, g2, g5, g6, g7, g22, g23, g24, wrap_fit]
      refine ⟨n - 1, by omega, i + 1, lv', by omega, rfl, rfl, ?_⟩
      rw [hsucc, eg_append, show eg [((cn ds N (es.getD i (0, 0)).1).toNat, (cn ds N (es.getD i (0, 0)).2).toNat)] = [I (cn ds N (es.getD i (0, 0)).1), I (cn ds N (es.getD i (0, 0)).2)] from by
        show [I _, I _] = _
        rw [Int.toNat_of_nonneg c1.1, Int.toNat_of_nonneg c2.1]]
      exact hS.tail.tail
    · rw [if_neg h2, List.append_nil] at hsucc
      repeat first | (with_reducible first | refine Wp.seq ?_ | refine Wp.reg ?_ | refine Wp.block ?_ | refine Wp.skip ?_ | refine Wp.ret ?_ | refine Wp.exit ?_ | refine Wp.label ?_ | refine Wp.condG ?_) | simp (disch := omega) only [↓RP, RQ, TS, TR, ↓reduceIte, Nat.reduceEqDiff, Nat.reduceLT, Nat.reduceLeDiff, Int.reduceLT, Int.reduceLE, Int.reduceEq, Int.reduceAdd, Int.reduceSub, Int.reduceNeg, Int.reduceToNat, Nat.reduceAdd, Nat.reduceMul, Nat.reduceSub, reduceCtorEq, RC, Int.cast_ofNat_Int, hn, g2, g5, g6, g7, g22, g23, g24, wrap_fit]
      refine ⟨n - 1, by omega, i + 1, lv, by omega, rfl, rfl, ?_⟩
      rw [hsucc]
      exact hS.tail
  · have hie : i = es.length := by omega
    subst hie
    rw [List.take_length] at hS
    have hov : Sl1 H' ov ws (List.range (lds ds N).length) := hS.rd 4 rfl
    have hrl2 : (List.range (lds ds N).length).length = (lds ds N).length := List.length_range
    have hxl := xe_le ds N es
    have hM := lds_le ds N
    repeat first | (with_reducible first | refine Wp.seq ?_ | refine Wp.reg ?_ | refine Wp.block ?_ | refine Wp.skip ?_ | refine Wp.ret ?_ | refine Wp.exit ?_ | refine Wp.label ?_ | refine Wp.condG ?_) | simp (disch := omega) only [↓RP, RQ, TS, TR, ↓reduceIte, Nat.reduceEqDiff, Nat.reduceLT, Nat.reduceLeDiff, Int.reduceLT, Int.reduceLE, Int.reduceEq, Int.reduceAdd, Int.reduceSub, Int.reduceNeg, Int.reduceToNat, Nat.reduceAdd, Nat.reduceMul, Nat.reduceSub, reduceCtorEq, RC, Int.cast_ofNat_Int, hn, g2, g5, g6, g7, g22, g23, g24, hov.len, hrl2]
    refine callFW_of (simple_ok (lds ds N).length hS (by omega) (fun e he => ?_)) ?_
    · unfold xe at he
      obtain ⟨x, hx, rfl⟩ := List.mem_map.1 he
      have hm := hval x (List.mem_filter.1 hx).1
      have c1 := cn_range hE hm.1
      have c2 := cn_range hE hm.2
      simp only
      omega
    rintro r H5 ⟨w, rest, hw, rfl, hS⟩
    have hE2 := hw _ (hS.rd 0 rfl)
    repeat first | (with_reducible first | refine Wp.seq ?_ | refine Wp.reg ?_ | refine Wp.block ?_ | refine Wp.skip ?_ | refine Wp.ret ?_ | refine Wp.exit ?_ | refine Wp.label ?_ | refine Wp.condG ?_) | simp (disch := omega) only [↓RP, RQ, TS, TR, ↓reduceIte, Nat.reduceEqDiff, Nat.reduceLT, Nat.reduceLeDiff, Int.reduceLT, Int.reduceLE, Int.reduceEq, Int.reduceAdd, Int.reduceSub, Int.reduceNeg, Int.reduceToNat, Nat.reduceAdd, Nat.reduceMul, Nat.reduceSub, reduceCtorEq, RC, Int.cast_ofNat_Int, hn, g2, g5, g6, g7, g22, g23, g24]
    refine hS.eStore 2 rfl [I (lds ds N).length, w] rfl (by simp [hE2.one]; rfl) tS27 (by simp) fun H6 hS => ?_
    simp only [List.nil_append, List.cons_append, List.append_nil, List.set_cons_zero, List.set_cons_succ, setMany_cons, setMany_nil, Nat.zero_add, Nat.mul_one, Nat.add_zero] at hS
    repeat first | (with_reducible first | refine Wp.seq ?_ | refine Wp.reg ?_ | refine Wp.block ?_ | refine Wp.skip ?_ | refine Wp.ret ?_ | refine Wp.exit ?_ | refine Wp.label ?_ | refine Wp.condG ?_) | simp (disch := omega) only [↓RP, RQ, TS, TR, ↓reduceIte, Nat.reduceEqDiff, Nat.reduceLT, Nat.reduceLeDiff, Int.reduceLT, Int.reduceLE, Int.reduceEq, Int.reduceAdd, Int.reduceSub, Int.reduceNeg, Int.reduceToNat, Nat.reduceAdd, Nat.reduceMul, Nat.reduceSub, reduceCtorEq, RC, Int.cast_ofNat_Int, hn, g2, g5, g6, g7, tR33, hS.ldA 2 rfl]
    exact ⟨ds, w, hT, rfl, lv, rest, hw, hS.sub (.cons_cons _ (List.nil_sublist _))⟩
end Go.Ds
/-
  Plain: edges in order, each once.
-/
namespace Go.Ds
open Go.Proofs Go.Plain

def lexLt (a b : Nat × Nat) : Prop := a.1 < b.1 ∨ (a.1 = b.1 ∧ a.2 < b.2)
theorem lexLt.trans {a b c : Nat × Nat} (h1 : lexLt a b) (h2 : lexLt b c) : lexLt a c := by unfold lexLt at *; omega
theorem lexLt.irrefl (a : Nat × Nat) : ¬ lexLt a a := by unfold lexLt; omega
theorem lex_le_lt {a b c : Nat × Nat} (h1 : lexLe a b) (h2 : lexLe b c) (h3 : c ≠ b) : lexLt a c := by
  unfold lexLe lexLt at *
  have h4 : ¬ (c.1 = b.1 ∧ c.2 = b.2) := fun h => h3 (Prod.ext h.1 h.2)
  omega
theorem lexLe.trans {a b c : Nat × Nat} (h1 : lexLe a b) (h2 : lexLe b c) : lexLe a c := by unfold lexLe at *; omega

/-- Lists in strict order are told by their members. -/
theorem strict_ext : ∀ {l m : List (Nat × Nat)}, l.Pairwise lexLt → m.Pairwise lexLt → (∀ e, e ∈ l ↔ e ∈ m) → l = m
  | [], [], _, _, _ => rfl
  | [], b :: m, _, _, h => by
    have := (h b).2 (List.mem_cons_self ..)
    cases this
  | a :: l, [], _, _, h => by
    have := (h a).1 (List.mem_cons_self ..)
    cases this
  | a :: l, b :: m, h1, h2, h => by
    rw [List.pairwise_cons] at h1 h2
    have hab : a = b := by
      rcases List.mem_cons.1 ((h a).1 (List.mem_cons_self ..)) with e | ha
      · exact e
      · rcases List.mem_cons.1 ((h b).2 (List.mem_cons_self ..)) with e | hb
        · exact e.symm
        · exact (lexLt.irrefl a ((h1.1 b hb).trans (h2.1 a ha))).elim
    subst hab
    congr 1
    refine strict_ext h1.2 h2.2 fun e => ?_
    constructor
    · intro he
      rcases List.mem_cons.1 ((h e).1 (List.mem_cons_of_mem _ he)) with e1 | e1
      · subst e1; exact (lexLt.irrefl _ (h1.1 _ he)).elim
      · exact e1
    · intro he
      rcases List.mem_cons.1 ((h e).2 (List.mem_cons_of_mem _ he)) with e1 | e1
      · subst e1; exact (lexLt.irrefl _ (h2.1 _ he)).elim
      · exact e1

theorem dd_strict (l : List (Nat × Nat)) (hl : l.Pairwise lexLe) : ∀ m, m ≤ l.length → (dd l m).Pairwise lexLt ∧ (∀ e, e ∈ dd l m ↔ e ∈ l.take m) ∧ ∀ e ∈ dd l m, 0 < m ∧ lexLe e (l.getD (m - 1) (0, 0))
  | 0, _ => by simp [dd]
  | m + 1, hm => by
    obtain ⟨h1, h2, h3⟩ := dd_strict l hl m (by omega)
    have hle : 0 < m → lexLe (l.getD (m - 1) (0, 0)) (l.getD m (0, 0)) := fun h0 => by
      have := List.pairwise_iff_getElem.1 hl (m - 1) m (by omega) (by omega) (by omega)
      simpa [List.getD_eq_getElem?_getD, show m - 1 < l.length from by omega, show m < l.length from by omega] using this
    have hself : lexLe (l.getD m (0, 0)) (l.getD m (0, 0)) := by unfold lexLe; omega
    rw [dd_succ, take_succ_getD l m (0, 0) (by omega), Nat.add_sub_cancel]
    by_cases hc : m = 0 ∨ l.getD m (0, 0) ≠ l.getD (m - 1) (0, 0)
    · rw [if_pos hc]
      refine ⟨?_, fun e => by rw [List.mem_append, List.mem_append, h2], fun e he => ⟨by omega, ?_⟩⟩
      · rw [List.pairwise_append]
        refine ⟨h1, List.pairwise_singleton _ _, fun e he e2 he2 => ?_⟩
        obtain rfl := List.mem_singleton.1 he2
        obtain ⟨h0, h4⟩ := h3 e he
        exact lex_le_lt h4 (hle h0) (hc.resolve_left (by omega))
      · rcases List.mem_append.1 he with he | he
        · obtain ⟨h0, h4⟩ := h3 e he
          exact h4.trans (hle h0)
        · obtain rfl := List.mem_singleton.1 he
          exact hself
    · rw [if_neg hc, List.append_nil]
      have h0 : 0 < m := by
        apply Classical.byContradiction
        intro hh
        exact hc (.inl (by omega))
      have heq : l.getD m (0, 0) = l.getD (m - 1) (0, 0) := Classical.byContradiction fun hh => hc (.inr hh)
      refine ⟨h1, fun e => ?_, fun e he => ⟨by omega, (h3 e he).2.trans (hle h0)⟩⟩
      rw [List.mem_append, h2]
      refine ⟨.inl, fun he => ?_⟩
      rcases he with he | he
      · exact he
      · obtain rfl := List.mem_singleton.1 he
        rw [heq]
        have : l.getD (m - 1) (0, 0) ∈ l.take m := by
          rw [List.getD_eq_getElem?_getD, List.getElem?_eq_getElem (by omega)]
          exact List.mem_take_iff_getElem.2 ⟨m - 1, by omega, rfl⟩
        exact this

theorem sd_strict (es : List (Nat × Nat)) : (sd es).Pairwise lexLt := (dd_strict (srt es) (srt_sorted es) _ (Nat.le_refl _)).1
theorem mem_sd {es : List (Nat × Nat)} (h : ∀ e ∈ es, e.1 < 256 ∧ e.2 < 256) (e : Nat × Nat) : e ∈ sd es ↔ e ∈ es := by
  have := (dd_strict (srt es) (srt_sorted es) _ (Nat.le_refl _)).2.1 e
  rw [List.take_length] at this
  exact this.trans (srt_perm h).mem_iff

/-- The pairs of numbers of which something holds, in order. -/
def dr (L : Nat → Nat → Bool) (a b : Nat) : List (Nat × Nat) := ((List.range b).filter (L a)).map fun k => (a, k)
def dA (L : Nat → Nat → Bool) (M a : Nat) : List (Nat × Nat) := (List.range a).flatMap fun x => dr L x M
theorem dr_succ (L : Nat → Nat → Bool) (a b : Nat) : dr L a (b + 1) = dr L a b ++ (if L a b = true then [(a, b)] else []) := by
  unfold dr
  rw [List.range_succ, List.filter_append, List.map_append]
  congr 1
  by_cases h : L a b = true
  · simp [h]
  · simp [h]
theorem dA_succ (L : Nat → Nat → Bool) (M a : Nat) : dA L M (a + 1) = dA L M a ++ dr L a M := by
  unfold dA
  rw [List.range_succ, List.flatMap_append]
  simp
theorem dr_le (L : Nat → Nat → Bool) (a b : Nat) : (dr L a b).length ≤ b := by
  unfold dr
  rw [List.length_map]
  refine Nat.le_trans (List.length_filter_le _ _) ?_
  simp
theorem dA_le (L : Nat → Nat → Bool) (M : Nat) : ∀ a, (dA L M a).length ≤ a * M
  | 0 => by simp [dA]
  | a + 1 => by
    have h1 := dA_le L M a
    have h2 := dr_le L a M
    rw [dA_succ, List.length_append, Nat.succ_mul]
    omega
theorem mem_dA (L : Nat → Nat → Bool) (M a : Nat) (e : Nat × Nat) : e ∈ dA L M a ↔ e.1 < a ∧ e.2 < M ∧ L e.1 e.2 = true := by
  unfold dA dr
  simp only [List.mem_flatMap, List.mem_range, List.mem_map, List.mem_filter]
  constructor
  · rintro ⟨x, hx, k, ⟨hk, hL⟩, rfl⟩
    exact ⟨hx, hk, hL⟩
  · rintro ⟨h1, h2, h3⟩
    exact ⟨e.1, h1, e.2, ⟨h2, h3⟩, rfl⟩
theorem dr_strict (L : Nat → Nat → Bool) (a : Nat) : ∀ b, (dr L a b).Pairwise lexLt
  | 0 => by simp [dr]
  | b + 1 => by
    rw [dr_succ, List.pairwise_append]
    refine ⟨dr_strict L a b, ?_, fun e he e2 he2 => ?_⟩
    · split
      · exact List.pairwise_singleton _ _
      · exact .nil
    · split at he2
      · obtain rfl := List.mem_singleton.1 he2
        unfold dr at he
        obtain ⟨k, hk, rfl⟩ := List.mem_map.1 he
        exact .inr ⟨rfl, List.mem_range.1 (List.mem_filter.1 hk).1⟩
      · cases he2
theorem dA_strict (L : Nat → Nat → Bool) (M : Nat) : ∀ a, (dA L M a).Pairwise lexLt
  | 0 => by simp [dA]
  | a + 1 => by
    rw [dA_succ, List.pairwise_append]
    refine ⟨dA_strict L M a, dr_strict L a M, fun e he e2 he2 => ?_⟩
    have h1 := (mem_dA L M a e).1 he
    unfold dr at he2
    obtain ⟨k, _, rfl⟩ := List.mem_map.1 he2
    exact .inl h1.1

/-- One of the first edges leads from a component to another. -/
def lead (ds : Nat → List Int) (N : Nat) (es : List (Nat × Nat)) (i a b : Nat) : Bool := (es.take i).any fun e => decide (a ≠ b ∧ cn ds N e.1 = a ∧ cn ds N e.2 = b)
theorem lead_succ (ds : Nat → List Int) (N : Nat) (es : List (Nat × Nat)) (i a b : Nat) (hi : i < es.length) : lead ds N es (i + 1) a b = (lead ds N es i a b || decide (a ≠ b ∧ cn ds N (es.getD i (0, 0)).1 = a ∧ cn ds N (es.getD i (0, 0)).2 = b)) := by
  unfold lead
  rw [take_succ_getD es i (0, 0) hi, List.any_append]
  simp only [List.any_cons, List.any_nil, Bool.or_false]
theorem due_eq {ds : Nat → List Int} {N : Nat} {es : List (Nat × Nat)} (h : Eqv ds N) (hN : N ≤ 200) (hval : ∀ e ∈ es, e.1 < N ∧ e.2 < N) : sd (xe ds N es) = dA (lead ds N es es.length) (lds ds N).length (lds ds N).length := by
  have hM := lds_le ds N
  have hb : ∀ e ∈ xe ds N es, e.1 < 256 ∧ e.2 < 256 := fun e he => by
    unfold xe at he
    obtain ⟨x, hx, rfl⟩ := List.mem_map.1 he
    have hm := hval x (List.mem_filter.1 hx).1
    have c1 := cn_range h hm.1
    have c2 := cn_range h hm.2
    simp only; omega
  refine strict_ext (sd_strict _) (dA_strict _ _ _) fun e => ?_
  rw [mem_sd hb, mem_dA]
  unfold xe lead
  simp only [List.mem_map, List.mem_filter, List.take_length, List.any_eq_true, decide_eq_true_eq]
  constructor
  · rintro ⟨x, ⟨hx, hne⟩, rfl⟩
    have hm := hval x hx
    have c1 := cn_range h hm.1
    have c2 := cn_range h hm.2
    refine ⟨by simp only; omega, by simp only; omega, x, hx, ?_⟩
    simp only
    omega
  · rintro ⟨h1, h2, x, hx, h3, h4, h5⟩
    refine ⟨x, ⟨hx, by omega⟩, ?_⟩
    apply Prod.ext
    · simp only; omega
    · simp only; omega
end Go.Ds
/-
  Contracts: the reference's Steps.
-/
namespace Go.Ds
open Go.Proofs Go.Plain
variable {H : Heap}

theorem steps_ok (N : Nat) (v : Value) (es : List (Nat × Nat)) (hv : Eg H v es) (hN : N ≤ 200) (he : es.length ≤ 1000) (hval : ∀ e ∈ es, e.1 < N ∧ e.2 < N) :
    Fn Try.prog 15 [I N, v] H fun r H' => ∃ (ws : Nat → Value) (rows : Nat → List Nat), (∀ i, i < N → IsS es N i (rows i)) ∧ St Try.prog H H' (⟨r, 1, (List.range N).map ws⟩ :: inner N ws rows) := by
  refine Fn.of_wp (fn := Try.f15) rfl rfl (by kernel_rfl) fun l hl => ?_
  have hn : l.length = 88 := by rw [hl]; rfl
  have g0 : get l 0 = I N := by rw [hl]; rfl
  have g1 : get l 1 = v := by rw [hl]; rfl
  clear hl
  repeat first | (with_reducible first | refine Wp.seq ?_ | refine Wp.reg ?_ | refine Wp.block ?_ | refine Wp.skip ?_ | refine Wp.ret ?_ | refine Wp.exit ?_ | refine Wp.label ?_ | refine Wp.condG ?_) | simp (disch := omega) only [↓RP, RQ, TS, TR, ↓reduceIte, Nat.reduceEqDiff, Nat.reduceLT, Nat.reduceLeDiff, Int.reduceLT, Int.reduceLE, Int.reduceEq, Int.reduceAdd, Int.reduceSub, Int.reduceNeg, Int.reduceToNat, Nat.reduceAdd, Nat.reduceMul, Nat.reduceSub, reduceCtorEq, RC, Int.cast_ofNat_Int, hn, g0, g1]
  refine Wp.loopN (fun n l H' => l.length = 88 ∧ get l 0 = I N ∧ get l 1 = v ∧ ∃ (i : Nat) (o : Value) (ws : Nat → Value) (rows : Nat → List Nat), n + i = N ∧ get l 6 = I i ∧ get l 5 = o ∧
    (∀ j, j < i → IsS es N j (rows j)) ∧ St Try.prog H H' (⟨o, 1, (List.range i).map ws⟩ :: inner i ws rows)) N ?_ ?_
  · repeat first | (with_reducible first | refine Wp.seq ?_ | refine Wp.reg ?_ | refine Wp.block ?_ | refine Wp.skip ?_ | refine Wp.ret ?_ | refine Wp.exit ?_ | refine Wp.label ?_ | refine Wp.condG ?_) | simp (disch := omega) only [↓RP, RQ, TS, TR, ↓reduceIte, Nat.reduceEqDiff, Nat.reduceLT, Nat.reduceLeDiff, Int.reduceLT, Int.reduceLE, Int.reduceEq, Int.reduceAdd, Int.reduceSub, Int.reduceNeg, Int.reduceToNat, Nat.reduceAdd, Nat.reduceMul, Nat.reduceSub, reduceCtorEq, RC, Int.cast_ofNat_Int, hn, g0, g1]
    exact ⟨0, _, fun _ => undef, fun _ => [], rfl, rfl, rfl, fun j hj => absurd hj (Nat.not_lt_zero _), by simpa [inner] using (St.refl Try.prog H).nil 0⟩
  clear hn g0 g1
  rintro n l H' ⟨hn, g0, g1, i, o, ws, rows, hi, g6, g5, hrows, hS⟩
  repeat first | (with_reducible first | refine Wp.seq ?_ | refine Wp.reg ?_ | refine Wp.block ?_ | refine Wp.skip ?_ | refine Wp.ret ?_ | refine Wp.exit ?_ | refine Wp.label ?_ | refine Wp.condG ?_) | simp (disch := omega) only [↓RP, RQ, TS, TR, ↓reduceIte, Nat.reduceEqDiff, Nat.reduceLT, Nat.reduceLeDiff, Int.reduceLT, Int.reduceLE, Int.reduceEq, Int.reduceAdd, Int.reduceSub, Int.reduceNeg, Int.reduceToNat, Nat.reduceAdd, Nat.reduceMul, Nat.reduceSub, reduceCtorEq, RC, Int.cast_ofNat_Int, hn, g0, g1, g5, g6]
  refine condW_split (fun h => ?_) (fun h => ?_)
  · have hiN : i < N := by omega
    repeat first | (with_reducible first | refine Wp.seq ?_ | refine Wp.reg ?_ | refine Wp.block ?_ | refine Wp.skip ?_ | refine Wp.ret ?_ | refine Wp.exit ?_ | refine Wp.label ?_ | refine Wp.condG ?_) | simp (disch := omega) only [↓RP, RQ, TS, TR, ↓reduceIte, Nat.reduceEqDiff, Nat.reduceLT, Nat.reduceLeDiff, Int.reduceLT, Int.reduceLE, Int.reduceEq, Int.reduceAdd, Int.reduceSub, Int.reduceNeg, Int.reduceToNat, Nat.reduceAdd, Nat.reduceMul, Nat.reduceSub, reduceCtorEq, RC, Int.cast_ofNat_Int, hn, g0, g1, g5, g6]
    refine hS.eMake1 N tM29 (by omega) fun w H2 hS => ?_
    have hS := hS.front
    repeat first | (with_reducible first | refine Wp.seq ?_ | refine Wp.reg ?_ | refine Wp.block ?_ | refine Wp.skip ?_ | refine Wp.ret ?_ | refine Wp.exit ?_ | refine Wp.label ?_ | refine Wp.condG ?_) | simp (disch := omega) only [↓RP, RQ, TS, TR, ↓reduceIte, Nat.reduceEqDiff, Nat.reduceLT, Nat.reduceLeDiff, Int.reduceLT, Int.reduceLE, Int.reduceEq, Int.reduceAdd, Int.reduceSub, Int.reduceNeg, Int.reduceToNat, Nat.reduceAdd, Nat.reduceMul, Nat.reduceSub, reduceCtorEq, RC, Int.cast_ofNat_Int, hn, g0, g1, g5, g6]
    refine Wp.loopN (fun n2 l H' => l.length = 88 ∧ get l 0 = I N ∧ get l 1 = v ∧ get l 5 = o ∧ get l 6 = I i ∧ get l 7 = w ∧ ∃ (b : Bool) (row : List Nat), get l 8 = .bool b ∧ n2 = 2 * wt N row + (if b = true then 1 else 0) ∧ RI es N i row ∧
      (b = false → ∀ e ∈ es, ¬ better i row e) ∧ St Try.prog H H' (⟨w, 1, nts row⟩ :: ⟨o, 1, (List.range i).map ws⟩ :: inner i ws rows)) (2 * wt N (List.replicate N 0) + 1) ?_ ?_
    · repeat first | (with_reducible first | refine Wp.seq ?_ | refine Wp.reg ?_ | refine Wp.block ?_ | refine Wp.skip ?_ | refine Wp.ret ?_ | refine Wp.exit ?_ | refine Wp.label ?_ | refine Wp.condG ?_) | simp (disch := omega) only [↓RP, RQ, TS, TR, ↓reduceIte, Nat.reduceEqDiff, Nat.reduceLT, Nat.reduceLeDiff, Int.reduceLT, Int.reduceLE, Int.reduceEq, Int.reduceAdd, Int.reduceSub, Int.reduceNeg, Int.reduceToNat, Nat.reduceAdd, Nat.reduceMul, Nat.reduceSub, reduceCtorEq, RC, Int.cast_ofNat_Int, hn, g0, g1, g5, g6]
      exact ⟨true, List.replicate N 0, rfl, rfl, .first es N i, (fun h => by cases h), by simpa [nts] using hS⟩
    clear hS hn g0 g1 g5 g6
    rintro n2 l H' ⟨hn, g0, g1, g5, g6, g7, b, row, g8, hn2, hR, hb, hS⟩
    repeat first | (with_reducible first | refine Wp.seq ?_ | refine Wp.reg ?_ | refine Wp.block ?_ | refine Wp.skip ?_ | refine Wp.ret ?_ | refine Wp.exit ?_ | refine Wp.label ?_ | refine Wp.condG ?_) | simp (disch := omega) only [↓RP, RQ, TS, TR, ↓reduceIte, Nat.reduceEqDiff, Nat.reduceLT, Nat.reduceLeDiff, Int.reduceLT, Int.reduceLE, Int.reduceEq, Int.reduceAdd, Int.reduceSub, Int.reduceNeg, Int.reduceToNat, Nat.reduceAdd, Nat.reduceMul, Nat.reduceSub, reduceCtorEq, RC, Int.cast_ofNat_Int, hn, g0, g1, g5, g6, g7, g8]
    refine condW_bool (fun hbt => ?_) (fun hbf => ?_)
    · subst hbt
      repeat first | (with_reducible first | refine Wp.seq ?_ | refine Wp.reg ?_ | refine Wp.block ?_ | refine Wp.skip ?_ | refine Wp.ret ?_ | refine Wp.exit ?_ | refine Wp.label ?_ | refine Wp.condG ?_) | simp (disch := omega) only [↓RP, RQ, TS, TR, ↓reduceIte, Nat.reduceEqDiff, Nat.reduceLT, Nat.reduceLeDiff, Int.reduceLT, Int.reduceLE, Int.reduceEq, Int.reduceAdd, Int.reduceSub, Int.reduceNeg, Int.reduceToNat, Nat.reduceAdd, Nat.reduceMul, Nat.reduceSub, reduceCtorEq, RC, Int.cast_ofNat_Int, hn, g0, g1, g5, g6, g7, g8]
      refine Wp.loopN (fun n3 l H' => l.length = 88 ∧ get l 0 = I N ∧ get l 1 = v ∧ get l 5 = o ∧ get l 6 = I i ∧ get l 7 = w ∧ ∃ (b : Bool) (row' : List Nat) (k : Nat), n3 + k = es.length ∧ get l 9 = I k ∧ get l 8 = .bool b ∧ RI es N i row' ∧
        (b = false → row' = row ∧ ∀ j, j < k → ¬ better i row (es.getD j (0, 0))) ∧ (b = true → wt N row' < wt N row) ∧ St Try.prog H H' (⟨w, 1, nts row'⟩ :: ⟨o, 1, (List.range i).map ws⟩ :: inner i ws rows)) es.length ?_ ?_
      · repeat first | (with_reducible first | refine Wp.seq ?_ | refine Wp.reg ?_ | refine Wp.block ?_ | refine Wp.skip ?_ | refine Wp.ret ?_ | refine Wp.exit ?_ | refine Wp.label ?_ | refine Wp.condG ?_) | simp (disch := omega) only [↓RP, RQ, TS, TR, ↓reduceIte, Nat.reduceEqDiff, Nat.reduceLT, Nat.reduceLeDiff, Int.reduceLT, Int.reduceLE, Int.reduceEq, Int.reduceAdd, Int.reduceSub, Int.reduceNeg, Int.reduceToNat, Nat.reduceAdd, Nat.reduceMul, Nat.reduceSub, reduceCtorEq, RC, Int.cast_ofNat_Int, hn, g0, g1, g5, g6, g7]
        exact ⟨false, row, 0, rfl, rfl, rfl, hR, fun _ => ⟨rfl, fun j hj => absurd hj (Nat.not_lt_zero _)⟩, (fun h => by cases h), hS⟩
      clear hS hn g0 g1 g5 g6 g7 g8
      rintro n3 l H' ⟨hn, g0, g1, g5, g6, g7, b, row', k, hk, g9, g8, hR', hbf, hbt, hS⟩
      have hv1 : Sl2 H' v _ _ es := hS.base hv
      have hw : Sl1 H' w (fun n : Nat => I n) row' := hS.rd 0 rfl
      repeat first | (with_reducible first | refine Wp.seq ?_ | refine Wp.reg ?_ | refine Wp.block ?_ | refine Wp.skip ?_ | refine Wp.ret ?_ | refine Wp.exit ?_ | refine Wp.label ?_ | refine Wp.condG ?_) | simp (disch := omega) only [↓RP, RQ, TS, TR, ↓reduceIte, Nat.reduceEqDiff, Nat.reduceLT, Nat.reduceLeDiff, Int.reduceLT, Int.reduceLE, Int.reduceEq, Int.reduceAdd, Int.reduceSub, Int.reduceNeg, Int.reduceToNat, Nat.reduceAdd, Nat.reduceMul, Nat.reduceSub, reduceCtorEq, RC, Int.cast_ofNat_Int, hn, g0, g1, g5, g6, g7, g8, g9, hv1.len]
      refine condW_split (fun h3 => ?_) (fun h3 => ?_)
      · have hm := hval _ (getD_mem (0, 0) (show k < es.length by omega))
        have hme := getD_mem (0, 0) (show k < es.length by omega)
        have hlen := hR'.len
        have hsm := hR'.small (es.getD k (0, 0)).1 hm.1
        have hnz := nz_le row'
        repeat first | (with_reducible first | refine Wp.seq ?_ | refine Wp.reg ?_ | refine Wp.block ?_ | refine Wp.skip ?_ | refine Wp.ret ?_ | refine Wp.exit ?_ | refine Wp.label ?_ | refine Wp.condG ?_) | simp (disch := omega) only [↓RP, RQ, TS, TR, ↓reduceIte, Nat.reduceEqDiff, Nat.reduceLT, Nat.reduceLeDiff, Int.reduceLT, Int.reduceLE, Int.reduceEq, Int.reduceAdd, Int.reduceSub, Int.reduceNeg, Int.reduceToNat, Nat.reduceAdd, Nat.reduceMul, Nat.reduceSub, reduceCtorEq, RC, Int.cast_ofNat_Int, hn, g0, g1, g5, g6, g7, g8, g9, hv1.idx, hv1.fld, hv1.ld0 (0, 0)]
        refine condW_cut (fun e l H2 => e = .normal ∧ H2 = H' ∧ l.length = 88 ∧ get l 0 = I N ∧ get l 1 = v ∧ get l 5 = o ∧ get l 6 = I i ∧ get l 7 = w ∧ get l 8 = .bool b ∧ get l 9 = I k ∧ get l 10 = I (offer i row' (es.getD k (0, 0)))) ?_ ?_
        · refine condW_split (fun h4 => ?_) (fun h4 => ?_)
          · have e : offer i row' (es.getD k (0, 0)) = 1 := by unfold offer; rw [if_pos (by omega)]
            repeat first | (with_reducible first | refine Wp.seq ?_ | refine Wp.reg ?_ | refine Wp.block ?_ | refine Wp.skip ?_ | refine Wp.ret ?_ | refine Wp.exit ?_ | refine Wp.label ?_ | refine Wp.condG ?_) | simp (disch := omega) only [↓RP, RQ, TS, TR, ↓reduceIte, Nat.reduceEqDiff, Nat.reduceLT, Nat.reduceLeDiff, Int.reduceLT, Int.reduceLE, Int.reduceEq, Int.reduceAdd, Int.reduceSub, Int.reduceNeg, Int.reduceToNat, Nat.reduceAdd, Nat.reduceMul, Nat.reduceSub, reduceCtorEq, RC, Int.cast_ofNat_Int, hn, g0, g1, g5, g6, g7, g8, g9, e]
            try rfl
          · repeat first | (with_reducible first | refine Wp.seq ?_ | refine Wp.reg ?_ | refine Wp.block ?_ | refine Wp.skip ?_ | refine Wp.ret ?_ | refine Wp.exit ?_ | refine Wp.label ?_ | refine Wp.condG ?_) | simp (disch := omega) only [↓RP, RQ, TS, TR, ↓reduceIte, Nat.reduceEqDiff, Nat.reduceLT, Nat.reduceLeDiff, Int.reduceLT, Int.reduceLE, Int.reduceEq, Int.reduceAdd, Int.reduceSub, Int.reduceNeg, Int.reduceToNat, Nat.reduceAdd, Nat.reduceMul, Nat.reduceSub, reduceCtorEq, RC, Int.cast_ofNat_Int, hn, g0, g1, g5, g6, g7, g8, g9, hv1.idx, hv1.fld, hv1.ld0 (0, 0), hw.idx, hw.ld 0]
            refine condW_split (fun h5 => ?_) (fun h5 => ?_)
            · have e : offer i row' (es.getD k (0, 0)) = row'.getD (es.getD k (0, 0)).1 0 + 1 := by unfold offer; rw [if_neg (by omega), if_pos (by omega)]
              repeat first | (with_reducible first | refine Wp.seq ?_ | refine Wp.reg ?_ | refine Wp.block ?_ | refine Wp.skip ?_ | refine Wp.ret ?_ | refine Wp.exit ?_ | refine Wp.label ?_ | refine Wp.condG ?_) | simp (disch := omega) only [↓RP, RQ, TS, TR, ↓reduceIte, Nat.reduceEqDiff, Nat.reduceLT, Nat.reduceLeDiff, Int.reduceLT, Int.reduceLE, Int.reduceEq, Int.reduceAdd, Int.reduceSub, Int.reduceNeg, Int.reduceToNat, Nat.reduceAdd, Nat.reduceMul, Nat.reduceSub, reduceCtorEq, RC, Int.cast_ofNat_Int, hn, g0, g1, g5, g6, g7, g8, g9, hv1.idx, hv1.fld, hv1.ld0 (0, 0), hw.idx, hw.ld 0, e, wrap_fit]
              try rfl
            · have e : offer i row' (es.getD k (0, 0)) = 0 := by unfold offer; rw [if_neg (by omega), if_neg (by omega)]
              repeat first | (with_reducible first | refine Wp.seq ?_ | refine Wp.reg ?_ | refine Wp.block ?_ | refine Wp.skip ?_ | refine Wp.ret ?_ | refine Wp.exit ?_ | refine Wp.label ?_ | refine Wp.condG ?_) | simp (disch := omega) only [↓RP, RQ, TS, TR, ↓reduceIte, Nat.reduceEqDiff, Nat.reduceLT, Nat.reduceLeDiff, Int.reduceLT, Int.reduceLE, Int.reduceEq, Int.reduceAdd, Int.reduceSub, Int.reduceNeg, Int.reduceToNat, Nat.reduceAdd, Nat.reduceMul, Nat.reduceSub, reduceCtorEq, RC, Int.cast_ofNat_Int, hn, g0, g1, g5, g6, g7, g8, g9, e]
              try rfl
        clear hn g0 g1 g5 g6 g7 g8 g9
        rintro e l H2 ⟨rfl, rfl, hn, g0, g1, g5, g6, g7, g8, g9, g10⟩
        repeat first | (with_reducible first | refine Wp.seq ?_ | refine Wp.reg ?_ | refine Wp.block ?_ | refine Wp.skip ?_ | refine Wp.ret ?_ | refine Wp.exit ?_ | refine Wp.label ?_ | refine Wp.condG ?_) | simp (disch := omega) only [↓RP, RQ, TS, TR, ↓reduceIte, Nat.reduceEqDiff, Nat.reduceLT, Nat.reduceLeDiff, Int.reduceLT, Int.reduceLE, Int.reduceEq, Int.reduceAdd, Int.reduceSub, Int.reduceNeg, Int.reduceToNat, Nat.reduceAdd, Nat.reduceMul, Nat.reduceSub, reduceCtorEq, RC, Int.cast_ofNat_Int, hn, g0, g1, g5, g6, g7, g8, g9, g10]
        refine letG_split (fun h6 => ?_) (fun h6 => ?_)
        · repeat first | (with_reducible first | refine Wp.seq ?_ | refine Wp.reg ?_ | refine Wp.block ?_ | refine Wp.skip ?_ | refine Wp.ret ?_ | refine Wp.exit ?_ | refine Wp.label ?_ | refine Wp.condG ?_) | simp (disch := omega) only [↓RP, RQ, TS, TR, ↓reduceIte, Nat.reduceEqDiff, Nat.reduceLT, Nat.reduceLeDiff, Int.reduceLT, Int.reduceLE, Int.reduceEq, Int.reduceAdd, Int.reduceSub, Int.reduceNeg, Int.reduceToNat, Nat.reduceAdd, Nat.reduceMul, Nat.reduceSub, reduceCtorEq, RC, Int.cast_ofNat_Int, hn, g0, g1, g5, g6, g7, g8, g9, g10, h6, hv1.idx, hv1.fld, hv1.ld0 (0, 0), hv1.ld1 (0, 0), hw.idx, hw.ld 0]
          refine letG_split' (fun h7 => ?_) (fun h7 => ?_)
          · have hb6 : better i row' (es.getD k (0, 0)) := ⟨by omega, .inl (by omega)⟩
            have hlt := hm.2
            have hst := hR'.step _ hme hm.1 hm.2 hb6
            repeat first | (with_reducible first | refine Wp.seq ?_ | refine Wp.reg ?_ | refine Wp.block ?_ | refine Wp.skip ?_ | refine Wp.ret ?_ | refine Wp.exit ?_ | refine Wp.label ?_ | refine Wp.condG ?_) | simp (disch := omega) only [↓RP, RQ, TS, TR, ↓reduceIte, Nat.reduceEqDiff, Nat.reduceLT, Nat.reduceLeDiff, Int.reduceLT, Int.reduceLE, Int.reduceEq, Int.reduceAdd, Int.reduceSub, Int.reduceNeg, Int.reduceToNat, Nat.reduceAdd, Nat.reduceMul, Nat.reduceSub, reduceCtorEq, RC, Int.cast_ofNat_Int, hn, g0, g1, g5, g6, g7, g8, g9, g10, h6, h7, hv1.idx, hv1.fld, hv1.ld0 (0, 0), hv1.ld1 (0, 0), hw.idx, hw.ld 0]
            refine hS.eStoreE 0 rfl [_] rfl rfl tS3 (by simp) (by simp only [nts, List.length_map, List.length_cons, List.length_nil]; omega) fun H5 hS => ?_
            simp only [List.nil_append, List.cons_append, List.append_nil, List.set_cons_zero, List.set_cons_succ, setMany_cons, setMany_nil, Nat.zero_add, Nat.mul_one, Nat.add_zero] at hS
            rw [show (nts row').set (es.getD k (0, 0)).2 (I (offer i row' (es.getD k (0, 0)))) = nts (row'.set (es.getD k (0, 0)).2 (offer i row' (es.getD k (0, 0)))) from (List.map_set ..).symm] at hS
            repeat first | (with_reducible first | refine Wp.seq ?_ | refine Wp.reg ?_ | refine Wp.block ?_ | refine Wp.skip ?_ | refine Wp.ret ?_ | refine Wp.exit ?_ | refine Wp.label ?_ | refine Wp.condG ?_) | simp (disch := omega) only [↓RP, RQ, TS, TR, ↓reduceIte, Nat.reduceEqDiff, Nat.reduceLT, Nat.reduceLeDiff, Int.reduceLT, Int.reduceLE, Int.reduceEq, Int.reduceAdd, Int.reduceSub, Int.reduceNeg, Int.reduceToNat, Nat.reduceAdd, Nat.reduceMul, Nat.reduceSub, reduceCtorEq, RC, Int.cast_ofNat_Int, hn, g0, g1, g5, g6, g7, g8, g9, g10, wrap_fit]
            refine ⟨n3 - 1, by omega, true, _, k + 1, by omega, rfl, rfl, hst.1, (fun h => by cases h), (fun _ => ?_), hS⟩
            cases b with
            | true => exact Nat.lt_trans hst.2 (hbt rfl)
            | false => rw [(hbf rfl).1] at hst ⊢; exact hst.2
          · repeat first | (with_reducible first | refine Wp.seq ?_ | refine Wp.reg ?_ | refine Wp.block ?_ | refine Wp.skip ?_ | refine Wp.ret ?_ | refine Wp.exit ?_ | refine Wp.label ?_ | refine Wp.condG ?_) | simp (disch := omega) only [↓RP, RQ, TS, TR, ↓reduceIte, Nat.reduceEqDiff, Nat.reduceLT, Nat.reduceLeDiff, Int.reduceLT, Int.reduceLE, Int.reduceEq, Int.reduceAdd, Int.reduceSub, Int.reduceNeg, Int.reduceToNat, Nat.reduceAdd, Nat.reduceMul, Nat.reduceSub, reduceCtorEq, RC, Int.cast_ofNat_Int, hn, g0, g1, g5, g6, g7, g8, g9, g10, h6, h7, hv1.idx, hv1.fld, hv1.ld0 (0, 0), hv1.ld1 (0, 0), hw.idx, hw.ld 0]
            refine condW_split (fun h8 => ?_) (fun h8 => ?_)
            · have hb6 : better i row' (es.getD k (0, 0)) := ⟨by omega, .inr (by omega)⟩
              have hlt := hm.2
              have hst := hR'.step _ hme hm.1 hm.2 hb6
              repeat first | (with_reducible first | refine Wp.seq ?_ | refine Wp.reg ?_ | refine Wp.block ?_ | refine Wp.skip ?_ | refine Wp.ret ?_ | refine Wp.exit ?_ | refine Wp.label ?_ | refine Wp.condG ?_) | simp (disch := omega) only [↓RP, RQ, TS, TR, ↓reduceIte, Nat.reduceEqDiff, Nat.reduceLT, Nat.reduceLeDiff, Int.reduceLT, Int.reduceLE, Int.reduceEq, Int.reduceAdd, Int.reduceSub, Int.reduceNeg, Int.reduceToNat, Nat.reduceAdd, Nat.reduceMul, Nat.reduceSub, reduceCtorEq, RC, Int.cast_ofNat_Int, hn, g0, g1, g5, g6, g7, g8, g9, g10, h6, h7, hv1.idx, hv1.fld, hv1.ld0 (0, 0), hv1.ld1 (0, 0), hw.idx, hw.ld 0]
              refine hS.eStoreE 0 rfl [_] rfl rfl tS3 (by simp) (by simp only [nts, List.length_map, List.length_cons, List.length_nil]; omega) fun H5 hS => ?_
              simp only [List.nil_append, List.cons_append, List.append_nil, List.set_cons_zero, List.set_cons_succ, setMany_cons, setMany_nil, Nat.zero_add, Nat.mul_one, Nat.add_zero] at hS
              rw [show (nts row').set (es.getD k (0, 0)).2 (I (offer i row' (es.getD k (0, 0)))) = nts (row'.set (es.getD k (0, 0)).2 (offer i row' (es.getD k (0, 0)))) from (List.map_set ..).symm] at hS
              repeat first | (with_reducible first | refine Wp.seq ?_ | refine Wp.reg ?_ | refine Wp.block ?_ | refine Wp.skip ?_ | refine Wp.ret ?_ | refine Wp.exit ?_ | refine Wp.label ?_ | refine Wp.condG ?_) | simp (disch := omega) only [↓RP, RQ, TS, TR, ↓reduceIte, Nat.reduceEqDiff, Nat.reduceLT, Nat.reduceLeDiff, Int.reduceLT, Int.reduceLE, Int.reduceEq, Int.reduceAdd, Int.reduceSub, Int.reduceNeg, Int.reduceToNat, Nat.reduceAdd, Nat.reduceMul, Nat.reduceSub, reduceCtorEq, RC, Int.cast_ofNat_Int, hn, g0, g1, g5, g6, g7, g8, g9, g10, wrap_fit]
              refine ⟨n3 - 1, by omega, true, _, k + 1, by omega, rfl, rfl, hst.1, (fun h => by cases h), (fun _ => ?_), hS⟩
              cases b with
              | true => exact Nat.lt_trans hst.2 (hbt rfl)
              | false => rw [(hbf rfl).1] at hst ⊢; exact hst.2
            · have hnb : ¬ better i row' (es.getD k (0, 0)) := fun hh => by
                rcases hh.2 with h9 | h9 <;> omega
              skip
              repeat first | (with_reducible first | refine Wp.seq ?_ | refine Wp.reg ?_ | refine Wp.block ?_ | refine Wp.skip ?_ | refine Wp.ret ?_ | refine Wp.exit ?_ | refine Wp.label ?_ | refine Wp.condG ?_) | simp (disch := omega) only [↓RP, RQ, TS, TR, ↓reduceIte, Nat.reduceEqDiff, Nat.reduceLT, Nat.reduceLeDiff, Int.reduceLT, Int.reduceLE, Int.reduceEq, Int.reduceAdd, Int.reduceSub, Int.reduceNeg, Int.reduceToNat, Nat.reduceAdd, Nat.reduceMul, Nat.reduceSub, reduceCtorEq, RC, Int.cast_ofNat_Int, hn, g0, g1, g5, g6, g7, g8, g9, g10, h6, wrap_fit]
              refine ⟨n3 - 1, by omega, b, row', k + 1, by omega, rfl, rfl, hR', (fun h => ?_), hbt, hS⟩
              obtain ⟨e1, e2⟩ := hbf h
              subst e1
              refine ⟨rfl, fun j hj => ?_⟩
              by_cases e : j = k
              · subst e; exact hnb
              · exact e2 j (by omega)
        · have hnb : ¬ better i row' (es.getD k (0, 0)) := fun hh => by have := hh.1; omega
          skip
          repeat first | (with_reducible first | refine Wp.seq ?_ | refine Wp.reg ?_ | refine Wp.block ?_ | refine Wp.skip ?_ | refine Wp.ret ?_ | refine Wp.exit ?_ | refine Wp.label ?_ | refine Wp.condG ?_) | simp (disch := omega) only [↓RP, RQ, TS, TR, ↓reduceIte, Nat.reduceEqDiff, Nat.reduceLT, Nat.reduceLeDiff, Int.reduceLT, Int.reduceLE, Int.reduceEq, Int.reduceAdd, Int.reduceSub, Int.reduceNeg, Int.reduceToNat, Nat.reduceAdd, Nat.reduceMul, Nat.reduceSub, reduceCtorEq, RC, Int.cast_ofNat_Int, hn, g0, g1, g5, g6, g7, g8, g9, g10, h6, wrap_fit]
          refine ⟨n3 - 1, by omega, b, row', k + 1, by omega, rfl, rfl, hR', (fun h => ?_), hbt, hS⟩
          obtain ⟨e1, e2⟩ := hbf h
          subst e1
          refine ⟨rfl, fun j hj => ?_⟩
          by_cases e : j = k
          · subst e; exact hnb
          · exact e2 j (by omega)
      · repeat first | (with_reducible first | refine Wp.seq ?_ | refine Wp.reg ?_ | refine Wp.block ?_ | refine Wp.skip ?_ | refine Wp.ret ?_ | refine Wp.exit ?_ | refine Wp.label ?_ | refine Wp.condG ?_) | simp (disch := omega) only [↓RP, RQ, TS, TR, ↓reduceIte, Nat.reduceEqDiff, Nat.reduceLT, Nat.reduceLeDiff, Int.reduceLT, Int.reduceLE, Int.reduceEq, Int.reduceAdd, Int.reduceSub, Int.reduceNeg, Int.reduceToNat, Nat.reduceAdd, Nat.reduceMul, Nat.reduceSub, reduceCtorEq, RC, Int.cast_ofNat_Int, hn, g0, g1, g5, g6, g7, g8, g9]
        cases b with
        | true =>
          have := hbt rfl
          refine ⟨_, ?_, true, row', rfl, rfl, hR', (fun h => by cases h), hS⟩
          rw [hn2]
          simp
          omega
        | false =>
          obtain ⟨e1, e2⟩ := hbf rfl
          subst e1
          refine ⟨_, ?_, false, row', rfl, rfl, hR', (fun _ e he => ?_), hS⟩
          · rw [hn2]; simp
          · obtain ⟨j, hj, rfl⟩ := List.getElem_of_mem he
            have := e2 j (by omega)
            rwa [List.getD_eq_getElem?_getD, List.getElem?_eq_getElem hj] at this
    · subst hbf
      have hw := (hS.rd 0 rfl).cells
      repeat first | (with_reducible first | refine Wp.seq ?_ | refine Wp.reg ?_ | refine Wp.block ?_ | refine Wp.skip ?_ | refine Wp.ret ?_ | refine Wp.exit ?_ | refine Wp.label ?_ | refine Wp.condG ?_) | simp (disch := omega) only [↓RP, RQ, TS, TR, ↓reduceIte, Nat.reduceEqDiff, Nat.reduceLT, Nat.reduceLeDiff, Int.reduceLT, Int.reduceLE, Int.reduceEq, Int.reduceAdd, Int.reduceSub, Int.reduceNeg, Int.reduceToNat, Nat.reduceAdd, Nat.reduceMul, Nat.reduceSub, reduceCtorEq, RC, Int.cast_ofNat_Int, hn, g0, g1, g5, g6, g7, g8]
      refine hS.eSlice [w] tP33 tF33 rfl rfl (by simp [hw.1]) (by simp [hw.1]) (by simp [hw.2.1]) (by decide) (by decide) fun x H2 hS => ?_
      have hS := hS.front
      repeat first | (with_reducible first | refine Wp.seq ?_ | refine Wp.reg ?_ | refine Wp.block ?_ | refine Wp.skip ?_ | refine Wp.ret ?_ | refine Wp.exit ?_ | refine Wp.label ?_ | refine Wp.condG ?_) | simp (disch := omega) only [↓RP, RQ, TS, TR, ↓reduceIte, Nat.reduceEqDiff, Nat.reduceLT, Nat.reduceLeDiff, Int.reduceLT, Int.reduceLE, Int.reduceEq, Int.reduceAdd, Int.reduceSub, Int.reduceNeg, Int.reduceToNat, Nat.reduceAdd, Nat.reduceMul, Nat.reduceSub, reduceCtorEq, RC, Int.cast_ofNat_Int, hn, g0, g1, g5, g6, g7, g8]
      refine hS.eAppend 2 rfl (hS.rd 0 rfl) tP33 (by simp only [List.length_map, List.length_range, List.length_cons, List.length_nil]; omega) fun o' H3 hS => ?_
      simp only [List.nil_append, List.cons_append, List.append_nil, List.set_cons_zero, List.set_cons_succ, setMany_cons, setMany_nil, Nat.zero_add, Nat.mul_one, Nat.add_zero] at hS
      repeat first | (with_reducible first | refine Wp.seq ?_ | refine Wp.reg ?_ | refine Wp.block ?_ | refine Wp.skip ?_ | refine Wp.ret ?_ | refine Wp.exit ?_ | refine Wp.label ?_ | refine Wp.condG ?_) | simp (disch := omega) only [↓RP, RQ, TS, TR, ↓reduceIte, Nat.reduceEqDiff, Nat.reduceLT, Nat.reduceLeDiff, Int.reduceLT, Int.reduceLE, Int.reduceEq, Int.reduceAdd, Int.reduceSub, Int.reduceNeg, Int.reduceToNat, Nat.reduceAdd, Nat.reduceMul, Nat.reduceSub, reduceCtorEq, RC, Int.cast_ofNat_Int, hn, g0, g1, g5, g6, g7, g8, wrap_fit]
      refine ⟨n - 1, by omega, i + 1, o', upd ws i w, upd rows i row, by omega, rfl, rfl, ?_, ?_⟩
      · intro j hj
        unfold upd
        split
        · rename_i e; rw [e]; exact hR.last hiN hval (hb rfl)
        · exact hrows j (by omega)
      · have hS := hS.tail
        have e1 : (List.range (i + 1)).map (upd ws i w) = (List.range i).map ws ++ [w] := by
          rw [List.range_succ, List.map_append]
          congr 1
          · exact List.map_congr_left fun j hj => by
              have := List.mem_range.1 hj
              unfold upd; rw [if_neg (by omega)]
          · simp [upd]
        have e2 : inner (i + 1) (upd ws i w) (upd rows i row) = inner i ws rows ++ [⟨w, 1, nts row⟩] := by
          unfold inner
          rw [List.range_succ, List.map_append]
          congr 1
          · exact List.map_congr_left fun j hj => by
              have := List.mem_range.1 hj
              unfold upd; rw [if_neg (by omega), if_neg (by omega)]
          · simp [upd]
        rw [e1, e2]
        exact hS.perm (by
          refine List.Perm.trans (List.Perm.swap _ _ _) (List.Perm.cons _ ?_)
          exact (List.perm_append_singleton _ _).symm)
  · repeat first | (with_reducible first | refine Wp.seq ?_ | refine Wp.reg ?_ | refine Wp.block ?_ | refine Wp.skip ?_ | refine Wp.ret ?_ | refine Wp.exit ?_ | refine Wp.label ?_ | refine Wp.condG ?_) | simp (disch := omega) only [↓RP, RQ, TS, TR, ↓reduceIte, Nat.reduceEqDiff, Nat.reduceLT, Nat.reduceLeDiff, Int.reduceLT, Int.reduceLE, Int.reduceEq, Int.reduceAdd, Int.reduceSub, Int.reduceNeg, Int.reduceToNat, Nat.reduceAdd, Nat.reduceMul, Nat.reduceSub, reduceCtorEq, RC, Int.cast_ofNat_Int, hn, g0, g1, g5, g6]
    have e : i = N := by omega
    subst e
    exact ⟨ws, rows, hrows, hS⟩
end Go.Ds
/-
  Contracts: the reference's Needed.
-/
namespace Go.Ds
open Go.Proofs Go.Plain
variable {H : Heap}

/-- One of the first edges implies another edge. -/
def impP (es : List (Nat × Nat)) (k j : Nat) : Prop := ∃ i, i < j ∧ (es.getD i (0, 0)).1 = (es.getD k (0, 0)).1 ∧
  (((es.getD i (0, 0)).2 ≠ (es.getD k (0, 0)).2 ∧ ∃ n, W es (n + 1) (es.getD i (0, 0)).2 (es.getD k (0, 0)).2) ∨ ((es.getD i (0, 0)).2 = (es.getD k (0, 0)).2 ∧ i < k))
theorem impP_succ (es : List (Nat × Nat)) (k j : Nat) : impP es k (j + 1) ↔ impP es k j ∨ ((es.getD j (0, 0)).1 = (es.getD k (0, 0)).1 ∧
    (((es.getD j (0, 0)).2 ≠ (es.getD k (0, 0)).2 ∧ ∃ n, W es (n + 1) (es.getD j (0, 0)).2 (es.getD k (0, 0)).2) ∨ ((es.getD j (0, 0)).2 = (es.getD k (0, 0)).2 ∧ j < k))) := by
  constructor
  · rintro ⟨i, hi, h⟩
    by_cases e : i = j
    · subst e; exact .inr h
    · exact .inl ⟨i, by omega, h⟩
  · rintro (⟨i, hi, h⟩ | h)
    · exact ⟨i, by omega, h⟩
    · exact ⟨j, by omega, h⟩

open Classical in
/-- The edges that the others do not imply. -/
noncomputable def ndd (es : List (Nat × Nat)) (K : Nat) : List Nat := (List.range K).filter fun k => decide (¬ impP es k es.length)
theorem ndd_succ (es : List (Nat × Nat)) (K : Nat) (b : Bool) (hb : b = true ↔ impP es K es.length) : ndd es (K + 1) = ndd es K ++ (if b = true then [] else [K]) := by
  unfold ndd
  rw [List.range_succ, List.filter_append]
  congr 1
  cases b with
  | true => simp [hb.1 rfl]
  | false =>
    have : ¬ impP es K es.length := fun h => by have := hb.2 h; cases this
    simp [this]
theorem ndd_le (es : List (Nat × Nat)) (K : Nat) : (ndd es K).length ≤ K := by
  unfold ndd
  refine Nat.le_trans (List.length_filter_le _ _) ?_
  simp
end Go.Ds
/-
  Plain graphs: the smallest cycle, as the program and as the reference find it.
-/
namespace Go.Plain

noncomputable def dist (es : List (Nat × Nat)) (N t : Nat) : List Int := by
  classical
  exact if h : ∃ d, IsD es N t d then Classical.choose h else []

theorem dist_eq {es : List (Nat × Nat)} {N t : Nat} {d : List Int} (h : IsD es N t d) : dist es N t = d := by
  unfold dist
  have hx : ∃ d, IsD es N t d := ⟨d, h⟩
  rw [dif_pos hx]
  exact (Classical.choose_spec hx).eq h

/-- The way back from the end of the edge i to its beginning, by edges from an index on: its table of distances. -/
noncomputable def dI (es : List (Nat × Nat)) (N first i : Nat) : List Int := dist (tE (es.drop first)) N (es.getD i (0, 0)).1
noncomputable def dT (es : List (Nat × Nat)) (N first i : Nat) : Int := (dI es N first i).getD (es.getD i (0, 0)).2 0

/-- The cycle that begins with the edge i and goes on by edges from an index on. -/
noncomputable def cyc (es : List (Nat × Nat)) (N first i : Nat) : List Nat := i :: pF es first (dI es N first i) (dT es N first i).toNat (es.getD i (0, 0)).2

/-- Indices of edges that lead from a to b. -/
def Ch (es : List (Nat × Nat)) : List Nat → Nat → Nat → Prop
  | [], a, b => a = b
  | i :: l, a, b => i < es.length ∧ (es.getD i (0, 0)).1 = a ∧ Ch es l (es.getD i (0, 0)).2 b

theorem Ch.append {es : List (Nat × Nat)} : ∀ {l m : List Nat} {a b c : Nat}, Ch es l a b → Ch es m b c → Ch es (l ++ m) a c
  | [], m, a, b, c, h, k => by have : a = b := h; subst this; exact k
  | i :: l, m, a, b, c, h, k => ⟨h.1, h.2.1, h.2.2.append k⟩

theorem Ch.split {es : List (Nat × Nat)} : ∀ {l m : List Nat} {a c : Nat}, Ch es (l ++ m) a c → ∃ b, Ch es l a b ∧ Ch es m b c
  | [], m, a, c, h => ⟨a, rfl, h⟩
  | i :: l, m, a, c, h => by
    obtain ⟨b, h1, h2⟩ := Ch.split h.2.2
    exact ⟨b, ⟨h.1, h.2.1, h1⟩, h2⟩

theorem getD_mem' {α : Type} {xs : List α} {i : Nat} (d : α) (h : i < xs.length) : xs.getD i d ∈ xs := by
  rw [List.getD_eq_getElem?_getD, List.getElem?_eq_getElem h]
  exact List.getElem_mem h

theorem Ch.walk {es : List (Nat × Nat)} {first : Nat} : ∀ {l : List Nat} {a b : Nat}, Ch es l a b → (∀ i ∈ l, first ≤ i) → W (es.drop first) l.length a b
  | [], _, _, h, _ => h
  | i :: l, a, b, h, hf => by
    rw [List.length_cons, W_cons]
    refine ⟨(es.getD i (0, 0)).2, ?_, Ch.walk h.2.2 fun j hj => hf j (List.mem_cons_of_mem _ hj)⟩
    have h1 := hf i (List.mem_cons_self ..)
    have h2 : es.getD i (0, 0) ∈ es.drop first := by
      rw [show i = first + (i - first) from by omega, ← getD_drop]
      exact getD_mem' _ (by simp; have := h.1; omega)
    rw [← h.2.1]
    exact h2

section
variable {es : List (Nat × Nat)} {N : Nat}

/-- All tables of distances that are asked for are there. -/
def HasD (es : List (Nat × Nat)) (N : Nat) : Prop := (∀ e ∈ es, e.1 < N ∧ e.2 < N) ∧ ∀ first t, first ≤ es.length → t < N → ∃ d, IsD (tE (es.drop first)) N t d

theorem HasD.at (T : HasD es N) {first i : Nat} (hf : first ≤ es.length) (hi : i < es.length) : IsD (tE (es.drop first)) N (es.getD i (0, 0)).1 (dI es N first i) := by
  obtain ⟨d, hd⟩ := T.2 first (es.getD i (0, 0)).1 hf (T.1 _ (getD_mem' _ hi)).1
  unfold dI
  rw [dist_eq hd]
  exact hd

theorem pF_ch (hv : ∀ e ∈ es, e.1 < N ∧ e.2 < N) {first t : Nat} {d : List Int} (hd : IsD (tE (es.drop first)) N t d) : ∀ (m a : Nat), a < N → d.getD a 0 = (m : Int) → Ch es (pF es first d m a) a t ∧ (∀ i ∈ pF es first d m a, first ≤ i) ∧ (pF es first d m a).length = m
  | 0, a, ha, hm => by
    refine ⟨?_, by simp [pF], rfl⟩
    have := (hd.pos a ha (by omega)).1
    rw [hm] at this
    exact Eq.symm this
  | m + 1, a, ha, hm => by
    obtain ⟨k1, k2, k3, _⟩ := pk_spec es first d m a (nearer hv hd a m ha hm)
    have hmt := (mt_iff ..).1 k3
    obtain ⟨h1, h2, h3⟩ := pF_ch hv hd m _ (hv _ (getD_mem' (0, 0) k2)).2 hmt.2
    refine ⟨⟨k2, hmt.1, h1⟩, ?_, by rw [pF, List.length_cons, h3]⟩
    intro i hi
    rcases List.mem_cons.1 hi with rfl | hi
    · exact k1
    · exact h2 i hi

/-- The cycle leads around. -/
theorem cyc_ch (T : HasD es N) {first i : Nat} (hf : first ≤ es.length) (hi : i < es.length) (h : 0 ≤ dT es N first i) :
    Ch es (cyc es N first i) (es.getD i (0, 0)).1 (es.getD i (0, 0)).1 ∧ (∀ j ∈ cyc es N first i, j = i ∨ first ≤ j) ∧ ((cyc es N first i).length : Int) = dT es N first i + 1 := by
  have h1 := (T.1 _ (getD_mem' (0, 0) hi)).2
  obtain ⟨a, b, c⟩ := pF_ch T.1 (T.at hf hi) (dT es N first i).toNat _ h1 (by unfold dT at h ⊢; omega)
  refine ⟨⟨hi, rfl, a⟩, ?_, ?_⟩
  · intro j hj
    rcases List.mem_cons.1 hj with hj | hj
    · exact .inl hj
    · exact .inr (b j hj)
  · unfold cyc
    rw [List.length_cons, c]
    omega

/-- A cycle of any indices gives one, no longer, that begins with its least. -/
theorem least_cycle (T : HasD es N) {l : List Nat} {a j : Nat} (hc : Ch es l a a) (hj : j ∈ l) (hl : ∀ i ∈ l, j ≤ i) : j < es.length ∧ 0 ≤ dT es N j j ∧ dT es N j j + 1 ≤ l.length := by
  obtain ⟨A, B, rfl⟩ := List.append_of_mem hj
  obtain ⟨b, h1, h2⟩ := hc.split
  have hje : j < es.length := h2.1
  have hjb : (es.getD j (0, 0)).1 = b := h2.2.1
  have h3 : Ch es (B ++ A) (es.getD j (0, 0)).2 (es.getD j (0, 0)).1 := by
    rw [hjb]; exact h2.2.2.append h1
  have h4 := h3.walk (first := j) fun i hi => hl i (by
    rcases List.mem_append.1 hi with hi | hi
    · exact List.mem_append_right _ (List.mem_cons_of_mem _ hi)
    · exact List.mem_append_left _ hi)
  have hd := T.at (first := j) (by omega) hje
  have hN := (T.1 _ (getD_mem' (0, 0) hje)).2
  have hnn : 0 ≤ dT es N j j := by
    unfold dT
    by_cases h0 : (dI es N j j).getD (es.getD j (0, 0)).2 0 < 0
    · exact ((hd.neg _ hN h0).2 _ (W_rev.2 h4)).elim
    · omega
  refine ⟨hje, hnn, ?_⟩
  have h5 := (hd.pos _ hN hnn).2 _ (W_rev.2 h4)
  have h6 : dT es N j j = (dI es N j j).getD (es.getD j (0, 0)).2 0 := rfl
  simp only [List.length_append, List.length_cons] at h5 ⊢
  omega

/-- Every list that is not empty has a least entry. -/
theorem least_of : ∀ (l : List Nat), l ≠ [] → ∃ j ∈ l, ∀ i ∈ l, j ≤ i
  | [], h => (h rfl).elim
  | [x], _ => ⟨x, by simp, by simp⟩
  | x :: y :: l, _ => by
    obtain ⟨j, hj, hl⟩ := least_of (y :: l) (by simp)
    by_cases h : x ≤ j
    · refine ⟨x, by simp, ?_⟩
      intro i hi
      rcases List.mem_cons.1 hi with rfl | hi
      · exact Nat.le_refl _
      · exact Nat.le_trans h (hl i hi)
    · refine ⟨j, List.mem_cons_of_mem _ hj, ?_⟩
      intro i hi
      rcases List.mem_cons.1 hi with rfl | hi
      · omega
      · exact hl i hi

/-- Ways that use no edge below an index are the same with and without those edges. -/
theorem pF_same (T : HasD es N) {first t : Nat} {d d' : List Int} (hd : IsD (tE (es.drop 0)) N t d) (hd' : IsD (tE (es.drop first)) N t d') : ∀ (m a : Nat), a < N → d.getD a 0 = (m : Int) → (∀ i ∈ pF es 0 d m a, first ≤ i) → d'.getD a 0 = (m : Int) ∧ pF es first d' m a = pF es 0 d m a
  | 0, a, ha, hm, _ => by
    have h1 := (hd.pos a ha (by omega)).1
    rw [hm] at h1
    have : t = a := h1
    subst this
    refine ⟨?_, rfl⟩
    by_cases h0 : d'.getD t 0 < 0
    · exact ((hd'.neg t ha h0).2 0 rfl).elim
    · have := (hd'.pos t ha (by omega)).2 0 rfl
      omega
  | m + 1, a, ha, hm, hf => by
    obtain ⟨k1, k2, k3, k4⟩ := pk_spec es 0 d m a (nearer T.1 hd a m ha hm)
    have hmt := (mt_iff ..).1 k3
    have hkN := (T.1 _ (getD_mem' (0, 0) k2)).2
    have hfk : first ≤ pk es 0 d m a := hf _ (List.mem_cons_self ..)
    obtain ⟨i1, i2⟩ := pF_same T hd hd' m _ hkN hmt.2 fun i hi => hf i (List.mem_cons_of_mem _ hi)
    have hda : d'.getD a 0 = ((m + 1 : Nat) : Int) := by
      have hch := (pF_ch T.1 hd (m + 1) a ha hm)
      have hw := hch.1.walk hf
      rw [hch.2.2] at hw
      by_cases h0 : d'.getD a 0 < 0
      · exact ((hd'.neg a ha h0).2 _ (W_rev.2 hw)).elim
      · have h1 := (hd'.pos a ha (by omega))
        have h2 := h1.2 _ (W_rev.2 hw)
        have h3 : W (tE (es.drop 0)) (d'.getD a 0).toNat t a := by
          have mono : ∀ n a b, W (es.drop first) n a b → W es n a b := by
            intro n
            induction n with
            | zero => intro a b h; exact h
            | succ n ih => rintro a b ⟨c, hc, he⟩; exact ⟨c, ih _ _ hc, List.mem_of_mem_drop he⟩
          rw [List.drop_zero]
          exact W_rev.2 (mono _ _ _ (W_rev.1 h1.1))
        have h4 := (hd.pos a ha (by omega)).2 _ h3
        omega
    refine ⟨hda, ?_⟩
    have hpk : pk es first d' m a = pk es 0 d m a := by
      refine pk_eq es first d' m a _ hfk k2 ((mt_iff ..).2 ⟨hmt.1, i1⟩) ?_
      intro i hi1 hi2
      rw [← Bool.not_eq_true, mt_iff]
      rintro ⟨e1, e2⟩
      have hil : i < es.length := by omega
      have hiN := (T.1 _ (getD_mem' (0, 0) hil)).2
      have h5 := k4 i (Nat.zero_le _) hi2
      rw [← Bool.not_eq_true, mt_iff] at h5
      apply h5
      refine ⟨e1, ?_⟩
      have hwd := (hd'.pos _ hiN (by omega)).1
      rw [e2] at hwd
      have mono : ∀ n a b, W (es.drop first) n a b → W es n a b := by
        intro n
        induction n with
        | zero => intro a b h; exact h
        | succ n ih => rintro a b ⟨c, hc, he⟩; exact ⟨c, ih _ _ hc, List.mem_of_mem_drop he⟩
      have hw : W (tE (es.drop 0)) m t (es.getD i (0, 0)).2 := by
        rw [List.drop_zero]
        exact W_rev.2 (mono _ _ _ (W_rev.1 hwd))
      by_cases h0 : d.getD (es.getD i (0, 0)).2 0 < 0
      · exact ((hd.neg _ hiN h0).2 _ hw).elim
      · have h6 := hd.pos _ hiN (by omega)
        have h7 := h6.2 _ hw
        have h8 := (hd.pos a ha (by omega)).2 ((d.getD (es.getD i (0, 0)).2 0).toNat + 1) ⟨_, h6.1, mem_tE.2 (by rw [List.drop_zero, ← e1]; exact getD_mem' (0, 0) hil)⟩
        omega
    rw [pF, pF, hpk, i2]
end
end Go.Plain
/-
  Plain graphs: the two smallest cycles are the same.
-/
namespace Go.Plain

/-- The first of the smallest so far. -/
def Mst (ok : Nat → Prop) (v : Nat → Int) (f : Nat → List Nat) (n : Nat) (c : List Nat) : Prop :=
  (c = [] ∧ ∀ i, i < n → ¬ ok i) ∨ ∃ k, k < n ∧ ok k ∧ c = f k ∧ (∀ i, i < n → ok i → v k ≤ v i) ∧ ∀ i, i < k → ok i → v k < v i

section
variable {ok : Nat → Prop} {v : Nat → Int} {f : Nat → List Nat} {n : Nat} {c : List Nat}
theorem Mst.first : Mst ok v f 0 [] := .inl ⟨rfl, fun i hi => absurd hi (Nat.not_lt_zero _)⟩
theorem Mst.none (h : Mst ok v f n c) (hn : ¬ ok n) : Mst ok v f (n + 1) c := by
  rcases h with ⟨h1, h2⟩ | ⟨k, h1, h2, h3, h4, h5⟩
  · refine .inl ⟨h1, fun i hi => ?_⟩
    by_cases e : i = n
    · subst e; exact hn
    · exact h2 i (by omega)
  · refine .inr ⟨k, by omega, h2, h3, fun i hi hok => ?_, h5⟩
    by_cases e : i = n
    · subst e; exact (hn hok).elim
    · exact h4 i (by omega) hok
theorem Mst.keep (h : Mst ok v f n c) (hl : ∀ i, i < n → ok i → ((f i).length : Int) = v i + 1) (hc : c ≠ []) (hv : (c.length : Int) ≤ v n + 1) : Mst ok v f (n + 1) c := by
  rcases h with ⟨h1, h2⟩ | ⟨k, h1, h2, h3, h4, h5⟩
  · exact (hc h1).elim
  · refine .inr ⟨k, by omega, h2, h3, fun i hi hok => ?_, h5⟩
    by_cases e : i = n
    · subst e
      have := hl k h1 h2
      rw [h3] at hv
      omega
    · exact h4 i (by omega) hok
theorem Mst.new (h : Mst ok v f n c) (hf : ∀ i, f i ≠ []) (hl : ∀ i, i < n → ok i → ((f i).length : Int) = v i + 1) (hn : ok n) (hv : c = [] ∨ v n + 1 < c.length) : Mst ok v f (n + 1) (f n) := by
  rcases h with ⟨h1, h2⟩ | ⟨k, h1, h2, h3, h4, h5⟩
  · refine .inr ⟨n, by omega, hn, rfl, fun i hi hok => ?_, fun i hi hok => (h2 i hi hok).elim⟩
    by_cases e : i = n
    · subst e; exact Int.le_refl _
    · exact (h2 i (by omega) hok).elim
  · have h6 := hl k h1 h2
    have h7 : v n < v k := by
      rcases hv with hv | hv
      · rw [h3] at hv
        exact (hf k hv).elim
      · rw [h3] at hv; omega
    refine .inr ⟨n, by omega, hn, rfl, fun i hi hok => ?_, fun i hi hok => ?_⟩
    · by_cases e : i = n
      · subst e; exact Int.le_refl _
      · have := h4 i (by omega) hok; omega
    · have := h4 i hi hok; omega
end

section
variable {es : List (Nat × Nat)} {N : Nat}
def goOk (es : List (Nat × Nat)) (N : Nat) (i : Nat) : Prop := 0 ≤ dT es N i i
def cand (es : List (Nat × Nat)) (N : Nat) (k : Nat) : Prop := 0 ≤ dT es N 0 k ∧ ∀ i ∈ cyc es N 0 k, k ≤ i

theorem W_drop {first : Nat} : ∀ {n a b : Nat}, W (es.drop first) n a b → W es n a b
  | 0, _, _, h => h
  | _ + 1, _, _, ⟨c, hc, he⟩ => ⟨c, W_drop hc, List.mem_of_mem_drop he⟩

theorem full_le (T : HasD es N) {k : Nat} (hk : k < es.length) (h : goOk es N k) : 0 ≤ dT es N 0 k ∧ dT es N 0 k ≤ dT es N k k := by
  have hd := T.at (first := 0) (Nat.zero_le _) hk
  have hd' := T.at (first := k) (by omega) hk
  have hN := (T.1 _ (getD_mem' (0, 0) hk)).2
  have h1 := (hd'.pos _ hN h).1
  have h2 : W (tE (es.drop 0)) (dT es N k k).toNat (es.getD k (0, 0)).1 (es.getD k (0, 0)).2 := by
    rw [List.drop_zero]
    exact W_rev.2 (W_drop (W_rev.1 h1))
  have h0 : 0 ≤ dT es N 0 k := by
    by_cases h3 : (dI es N 0 k).getD (es.getD k (0, 0)).2 0 < 0
    · exact ((hd.neg _ hN h3).2 _ h2).elim
    · unfold dT; omega
  refine ⟨h0, ?_⟩
  have h3 := (hd.pos _ hN h0).2 _ h2
  have h4 : dT es N 0 k = (dI es N 0 k).getD (es.getD k (0, 0)).2 0 := rfl
  have h5 : 0 ≤ dT es N k k := h
  omega

theorem cycles_same (T : HasD es N) {c b : List Nat} (hc : Mst (goOk es N) (fun i => dT es N i i) (fun i => cyc es N i i) es.length c) (hb : Mst (cand es N) (fun i => dT es N 0 i) (fun i => cyc es N 0 i) es.length b) : c = b := by
  -- a cycle of the reference gives one of the program
  have F1 : ∀ k, k < es.length → 0 ≤ dT es N 0 k → ∃ j, j ≤ k ∧ (∀ i ∈ cyc es N 0 k, j ≤ i) ∧ goOk es N j ∧ dT es N j j ≤ dT es N 0 k ∧ j ∈ cyc es N 0 k := by
    intro k hk h0
    obtain ⟨a1, a2, a3⟩ := cyc_ch T (first := 0) (Nat.zero_le _) hk h0
    obtain ⟨j, hj, hl⟩ := least_of (cyc es N 0 k) (by simp [cyc])
    obtain ⟨b1, b2, b3⟩ := least_cycle T a1 hj hl
    exact ⟨j, hl k (by simp [cyc]), hl, b2, by omega, hj⟩
  rcases hc with ⟨h1, h2⟩ | ⟨k0, h1, h2, h3, h4, h5⟩
  · rcases hb with ⟨g1, _⟩ | ⟨k, g1, g2, _⟩
    · rw [h1, g1]
    · obtain ⟨j, hj, _, hok, _⟩ := F1 k g1 g2.1
      exact (h2 j (by omega) hok).elim
  · simp only at h4 h5
    have hf := full_le T h1 h2
    have hm : dT es N 0 k0 = dT es N k0 k0 := by
      obtain ⟨j, hj, _, hok, hle, _⟩ := F1 k0 h1 hf.1
      have := h4 j (by omega) hok
      omega
    have hcand : cand es N k0 := by
      refine ⟨hf.1, ?_⟩
      obtain ⟨j, hj, hl, hok, hle, _⟩ := F1 k0 h1 hf.1
      by_cases e : j = k0
      · subst e; exact hl
      · have := h5 j (by omega) hok
        omega
    have hsame : cyc es N k0 k0 = cyc es N 0 k0 := by
      have hd := T.at (first := 0) (Nat.zero_le _) h1
      have hd' := T.at (first := k0) (by omega) h1
      have hN := (T.1 _ (getD_mem' (0, 0) h1)).2
      have := pF_same T hd hd' (dT es N 0 k0).toNat _ hN (by have := hf.1; unfold dT at this ⊢; omega) (fun i hi => hcand.2 i (List.mem_cons_of_mem _ hi))
      unfold cyc
      rw [← hm, this.2]
    rcases hb with ⟨_, g2⟩ | ⟨k1, g1, g2, g3, g4, g5⟩
    · exact (g2 k0 h1 hcand).elim
    · simp only at g4 g5
      have e1 := g4 k0 h1 hcand
      obtain ⟨j, hj, hl, hok, hle, hjm⟩ := F1 k1 g1 g2.1
      have hjk : j = k1 := by
        have := g2.2 j hjm
        omega
      subst hjk
      have e2 := h4 j g1 hok
      rcases Nat.lt_trichotomy j k0 with h | h | h
      · have := h5 j h hok
        omega
      · subst h
        rw [h3, g3]
        exact hsame
      · have := g5 k0 h hcand
        omega
end
end Go.Plain
/-
  Plain graphs: the least topological order.
-/
namespace Go.Plain

/-- A node that may come next. -/
def rdy (es : List (Nat × Nat)) (out : List Nat) (i : Nat) : Prop := i ∉ out ∧ ∀ e ∈ es, e.2 = i → e.1 ∈ out

/-- A part of a topological order, each the least that may come next. -/
inductive Top (es : List (Nat × Nat)) (N : Nat) : List Nat → Prop where
  | nil : Top es N []
  | step {out : List Nat} {i : Nat} (h : Top es N out) (hi : i < N) (hr : rdy es out i) (hl : ∀ j, j < i → ¬ rdy es out j) : Top es N (out ++ [i])

theorem rdy_eq {es : List (Nat × Nat)} {out : List Nat} {i j : Nat} (h1 : rdy es out i) (h2 : ∀ k, k < i → ¬ rdy es out k) (h3 : rdy es out j) (h4 : ∀ k, k < j → ¬ rdy es out k) : i = j := by
  rcases Nat.lt_trichotomy i j with h | h | h
  · exact (h4 i h h1).elim
  · exact h
  · exact (h2 j h h3).elim

theorem Top.nodup {es : List (Nat × Nat)} {N : Nat} {out : List Nat} (h : Top es N out) : out.Nodup := by
  induction h with
  | nil => exact .nil
  | step h hi hr hl ih =>
    rw [List.nodup_append]
    refine ⟨ih, List.nodup_cons.2 ⟨by simp, .nil⟩, ?_⟩
    intro a ha b hb e
    rw [List.mem_singleton.1 hb] at e
    rw [e] at ha
    exact hr.1 ha

theorem Top.lt {es : List (Nat × Nat)} {N : Nat} {out : List Nat} (h : Top es N out) : ∀ i ∈ out, i < N := by
  induction h with
  | nil => intro i hi; cases hi
  | step h hi hr hl ih =>
    intro j hj
    rcases List.mem_append.1 hj with hj | hj
    · exact ih j hj
    · rw [List.mem_singleton.1 hj]; exact hi

theorem nodup_le : ∀ (N : Nat) (l : List Nat), l.Nodup → (∀ i ∈ l, i < N) → l.length ≤ N
  | 0, l, _, h => by
    cases l with
    | nil => simp
    | cons a l => exact absurd (h a (List.mem_cons_self ..)) (Nat.not_lt_zero _)
  | N + 1, l, hn, h => by
    have h1 := nodup_le N (l.erase N) (hn.erase N) (fun i hi => by
      have h2 := (List.Nodup.mem_erase_iff hn).1 hi
      have := h i h2.2
      have := h2.1
      omega)
    have h2 := List.length_erase (a := N) (l := l)
    split at h2 <;> omega

theorem nodup_all {N : Nat} {l : List Nat} (hn : l.Nodup) (h : ∀ i ∈ l, i < N) (hl : l.length = N) : ∀ i, i < N → i ∈ l := by
  intro i hi
  by_cases hm : i ∈ l
  · exact hm
  · have h1 : (i :: l).Nodup := List.nodup_cons.2 ⟨hm, hn⟩
    have := nodup_le N (i :: l) h1 (by
      intro j hj
      rcases List.mem_cons.1 hj with rfl | hj
      · exact hi
      · exact h j hj)
    rw [List.length_cons] at this
    omega

/-- What has come has all that leads to it behind it. -/
theorem Top.pred {es : List (Nat × Nat)} {N : Nat} {out : List Nat} (h : Top es N out) : ∀ e ∈ es, e.2 ∈ out → e.1 ∈ out := by
  induction h with
  | nil => intro e _ h; cases h
  | step h hi hr hl ih =>
    intro e he hm
    rcases List.mem_append.1 hm with hm | hm
    · exact List.mem_append_left _ (ih e he hm)
    · exact List.mem_append_left _ (hr.2 e he (List.mem_singleton.1 hm))

/-- No way leads around among what has come. -/
theorem Top.around {es : List (Nat × Nat)} {N : Nat} {out : List Nat} (h : Top es N out) : ∀ (n a : Nat), a ∈ out → ¬ W es (n + 1) a a := by
  have back : ∀ {out : List Nat}, Top es N out → ∀ n a b, W es n a b → b ∈ out → a ∈ out := by
    intro out h n
    induction n with
    | zero => intro a b hw hb; have : a = b := hw; rw [this]; exact hb
    | succ n ih =>
      rintro a b ⟨c, hc, he⟩ hb
      exact ih a c hc (h.pred _ he hb)
  induction h with
  | nil => intro n a ha; cases ha
  | step h hi hr hl ih =>
    rename_i out i
    intro n a ha hw
    rcases List.mem_append.1 ha with ha | ha
    · exact ih n a ha hw
    · have hai : a = i := List.mem_singleton.1 ha
      subst hai
      obtain ⟨c, hc, he⟩ := hw
      have hco : c ∈ out := hr.2 _ he rfl
      exact hr.1 (back h n a c hc hco)

theorem nodup_sub : ∀ (l m : List Nat), l.Nodup → (∀ i ∈ l, i ∈ m) → l.length ≤ m.length
  | [], m, _, _ => Nat.zero_le _
  | x :: l, m, hn, h => by
    have hn := List.nodup_cons.1 hn
    have hx := h x (List.mem_cons_self ..)
    have h1 := nodup_sub l (m.erase x) hn.2 (fun i hi => by
      have hne : i ≠ x := fun e => hn.1 (by rw [← e]; exact hi)
      exact (List.mem_erase_of_ne hne).2 (h i (List.mem_cons_of_mem _ hi)))
    have h2 := List.length_erase_of_mem hx
    have h3 := List.length_pos_of_mem hx
    rw [List.length_cons]
    omega

theorem least_ex {p : Nat → Prop} : ∀ (n : Nat), p n → ∃ i, i ≤ n ∧ p i ∧ ∀ j, j < i → ¬ p j := by
  intro n
  induction n using Nat.strongRecOn with
  | _ n ih =>
    intro h
    by_cases hx : ∃ j, j < n ∧ p j
    · obtain ⟨j, hj, hp⟩ := hx
      obtain ⟨i, h1, h2, h3⟩ := ih j hj hp
      exact ⟨i, by omega, h2, h3⟩
    · exact ⟨n, Nat.le_refl _, h, fun j hj hp => hx ⟨j, hj, hp⟩⟩

/-- Without a way around something may come next, as long as not all has come. -/
theorem Top.more {es : List (Nat × Nat)} {N : Nat} {out : List Nat} (hv : ∀ e ∈ es, e.1 < N ∧ e.2 < N) (hno : ∀ n a, ¬ W es (n + 1) a a) (hl : out.length < N) : ∃ i, i < N ∧ rdy es out i ∧ ∀ j, j < i → ¬ rdy es out j := by
  by_cases hx : ∃ i, i < N ∧ rdy es out i
  · obtain ⟨i, hi, hr⟩ := hx
    obtain ⟨j, h1, h2, h3⟩ := least_ex i hr
    exact ⟨j, by omega, h2, h3⟩
  · exfalso
    have hpred : ∀ x, x < N → x ∉ out → ∃ p, p < N ∧ p ∉ out ∧ (p, x) ∈ es := by
      intro x hxN hxo
      apply Classical.byContradiction
      intro hcon
      refine hx ⟨x, hxN, hxo, fun e he h2 => ?_⟩
      apply Classical.byContradiction
      intro h3
      exact hcon ⟨e.1, (hv e he).1, h3, by rw [← h2]; exact he⟩
    have hex : ∃ x, x < N ∧ x ∉ out := by
      apply Classical.byContradiction
      intro hcon
      have := nodup_sub (List.range N) out List.nodup_range (fun i hi => Classical.byContradiction fun hh => hcon ⟨i, List.mem_range.1 hi, hh⟩)
      rw [List.length_range] at this
      omega
    have key : ∀ m, ∃ (h : Nat) (l : List Nat), (h :: l).length = m + 1 ∧ (h :: l).Nodup ∧ (∀ i ∈ h :: l, i < N ∧ i ∉ out) ∧ ∀ i ∈ h :: l, ∃ n, W es n h i := by
      intro m
      induction m with
      | zero =>
        obtain ⟨x, h1, h2⟩ := hex
        exact ⟨x, [], rfl, List.nodup_cons.2 ⟨by simp, .nil⟩, by simp [h1, h2], fun i hi => ⟨0, by
          have : i = x := by simpa using hi
          exact this.symm⟩⟩
      | succ m ih =>
        obtain ⟨h, l, h1, h2, h3, h4⟩ := ih
        have hh := h3 h (List.mem_cons_self ..)
        obtain ⟨p, p1, p2, p3⟩ := hpred h hh.1 hh.2
        refine ⟨p, h :: l, by rw [List.length_cons, h1], List.nodup_cons.2 ⟨fun hm => ?_, h2⟩, ?_, ?_⟩
        · obtain ⟨n, hn⟩ := h4 p hm
          exact hno n h ⟨p, hn, p3⟩
        · intro i hi
          rcases List.mem_cons.1 hi with rfl | hi
          · exact ⟨p1, p2⟩
          · exact h3 i hi
        · intro i hi
          rcases List.mem_cons.1 hi with rfl | hi
          · exact ⟨0, rfl⟩
          · obtain ⟨n, hn⟩ := h4 i hi
            exact ⟨n + 1, W_cons.2 ⟨h, p3, hn⟩⟩
    obtain ⟨h, l, h1, h2, h3, _⟩ := key N
    have := nodup_le N (h :: l) h2 fun i hi => (h3 i hi).1
    omega

/-- The whole order. -/
theorem Top.uniq {es : List (Nat × Nat)} {N : Nat} : ∀ {l m : List Nat}, Top es N l → Top es N m → l.length = m.length → l = m := by
  intro l m hl
  induction hl generalizing m with
  | nil => intro _ h; exact (List.eq_nil_of_length_eq_zero h.symm).symm
  | step h hi hr hle ih =>
    rename_i out i
    intro hm hlen
    cases hm with
    | nil => simp at hlen
    | step h' hi' hr' hle' =>
      rename_i out' i'
      have : out = out' := ih h' (by simpa using hlen)
      subst this
      rw [rdy_eq hr hle hr' hle']

/-- A walk of some edges that returns, from a list of indices that does. -/
theorem Ch.around {es : List (Nat × Nat)} {i : Nat} {l : List Nat} {a : Nat} (h : Ch es (i :: l) a a) : W es (l.length + 1) a a := by
  have := h.walk (first := 0) (fun _ _ => Nat.zero_le _)
  rw [List.drop_zero] at this
  exact this

/-- A walk as a list of indices. -/
theorem W.ch {es : List (Nat × Nat)} : ∀ {n a b : Nat}, W es n a b → ∃ l, l.length = n ∧ Ch es l a b
  | 0, a, b, h => ⟨[], rfl, h⟩
  | n + 1, a, b, h => by
    obtain ⟨c, h1, h2⟩ := W_cons.1 h
    obtain ⟨l, h3, h4⟩ := W.ch h2
    obtain ⟨i, hi, hie⟩ := List.getElem_of_mem h1
    have hg : es.getD i (0, 0) = (a, c) := by
      rw [List.getD_eq_getElem?_getD, List.getElem?_eq_getElem hi, Option.getD_some, hie]
    exact ⟨i :: l, by rw [List.length_cons, h3], hi, by rw [hg], by rw [hg]; exact h4⟩

/-- The reference finds a cycle exactly if a way leads around. -/
theorem cycle_iff {es : List (Nat × Nat)} {N : Nat} (T : HasD es N) {b : List Nat} (hb : Mst (cand es N) (fun i => dT es N 0 i) (fun i => cyc es N 0 i) es.length b) : 0 < b.length ↔ ∃ n a, W es (n + 1) a a := by
  classical
  constructor
  · intro h
    rcases hb with ⟨h1, _⟩ | ⟨k, h1, h2, h3, _⟩
    · rw [h1] at h; simp at h
    · have := (cyc_ch T (Nat.zero_le _) h1 h2.1).1
      exact ⟨_, _, Ch.around this⟩
  · rintro ⟨n, a, hw⟩
    obtain ⟨l, h1, h2⟩ := hw.ch
    obtain ⟨j, hj, hle⟩ := least_of l (by intro e; rw [e] at h1; simp at h1)
    obtain ⟨b1, b2, b3⟩ := least_cycle T h2 hj hle
    have hcl : ∀ i, i < es.length → goOk es N i → ((cyc es N i i).length : Int) = dT es N i i + 1 := fun i hi h => (cyc_ch T (by omega) hi h).2.2
    have hex : ∀ n, n ≤ es.length → ∃ c, Mst (goOk es N) (fun i => dT es N i i) (fun i => cyc es N i i) n c := by
      intro n
      induction n with
      | zero => intro _; exact ⟨[], .first⟩
      | succ n ih =>
        intro hn
        obtain ⟨c, hc⟩ := ih (by omega)
        by_cases hok : goOk es N n
        · by_cases hcc : c = [] ∨ dT es N n n + 1 < c.length
          · exact ⟨_, hc.new (fun _ => by simp [cyc]) (fun j hj => hcl j (by omega)) hok hcc⟩
          · refine ⟨c, hc.keep (fun j hj => hcl j (by omega)) (fun e => hcc (.inl e)) ?_⟩
            have : ¬ dT es N n n + 1 < c.length := fun hh => hcc (.inr hh)
            omega
        · exact ⟨c, hc.none hok⟩
    obtain ⟨c, hc⟩ := hex es.length (Nat.le_refl _)
    have hcb := cycles_same T hc hb
    rw [← hcb]
    rcases hc with ⟨_, h3⟩ | ⟨k, _, _, h3, _⟩
    · exact (h3 j b1 b2).elim
    · rw [h3]; simp [cyc]
end Go.Plain

namespace Go.Plain

theorem take_succ_getD' {α : Type} : ∀ (l : List α) (j : Nat) (a : α), j < l.length → l.take (j + 1) = l.take j ++ [l.getD j a]
  | [], j, a, h => by simp at h
  | x :: l, 0, a, h => by simp
  | x :: l, j + 1, a, h => by
    have := take_succ_getD' l j a (by simpa using h)
    rw [List.take_succ_cons, this]
    rfl

theorem Top.take {es : List (Nat × Nat)} {N : Nat} {out : List Nat} (h : Top es N out) : ∀ m, Top es N (out.take m) := by
  induction h with
  | nil => intro m; rw [List.take_nil]; exact .nil
  | step h hi hr hl ih =>
    rename_i out i
    intro m
    rcases Nat.lt_or_ge out.length m with hm | hm
    · rw [List.take_of_length_le (by rw [List.length_append]; simp only [List.length_cons, List.length_nil]; omega)]
      exact h.step hi hr hl
    · rw [List.take_append_of_le_length hm]
      exact ih m

theorem Top.at {es : List (Nat × Nat)} {N : Nat} {out : List Nat} (h : Top es N out) {m : Nat} (hm : m < out.length) : out.getD m 0 < N ∧ rdy es (out.take m) (out.getD m 0) := by
  have h1 := h.take (m + 1)
  rw [take_succ_getD' out m 0 hm] at h1
  generalize hq : out.take m ++ [out.getD m 0] = q at h1
  cases h1 with
  | nil => simp at hq
  | step h2 hi hr hl =>
    obtain ⟨e1, e2⟩ := List.append_inj' hq rfl
    rw [e1]
    rw [List.cons.inj e2 |>.1]
    exact ⟨hi, hr⟩

/-- A way to what has come is shorter than what has come. -/
theorem Top.short {es : List (Nat × Nat)} {N : Nat} {out : List Nat} (h : Top es N out) : ∀ n a k, k ∈ out → W es n a k → n < out.length := by
  induction h with
  | nil => intro n a k hk; cases hk
  | step h hi hr hl ih =>
    rename_i out i
    intro n a k hk hw
    rw [List.length_append]
    simp only [List.length_cons, List.length_nil]
    rcases List.mem_append.1 hk with hk | hk
    · have := ih n a k hk hw
      omega
    · have hki : k = i := List.mem_singleton.1 hk
      subst hki
      cases n with
      | zero => omega
      | succ n =>
        obtain ⟨c, hc, he⟩ := hw
        have := ih n a c (hr.2 _ he rfl) hc
        omega

/-- Lengths of ways that end at a node. -/
structure Ls (es : List (Nat × Nat)) (N : Nat) (d : List Int) : Prop where
  len : d.length = N
  snd : ∀ k, k < N → ∃ n a, d.getD k 0 = ((n : Nat) : Int) ∧ W es n a k

/-- The greatest. -/
structure IsL (es : List (Nat × Nat)) (N : Nat) (d : List Int) : Prop extends Ls es N d where
  rel : ∀ e ∈ es, d.getD e.1 0 + 1 ≤ d.getD e.2 0

theorem Ls.zero (es : List (Nat × Nat)) (N : Nat) : Ls es N (List.replicate N 0) :=
  ⟨by simp, fun k hk => ⟨0, k, by simp [List.getD_eq_getElem?_getD, hk], rfl⟩⟩

theorem Ls.nonneg {es : List (Nat × Nat)} {N : Nat} {d : List Int} (h : Ls es N d) {k : Nat} (hk : k < N) : 0 ≤ d.getD k 0 := by
  obtain ⟨n, a, h1, _⟩ := h.snd k hk
  omega

theorem Ls.small {es : List (Nat × Nat)} {N : Nat} {d : List Int} {out : List Nat} (h : Ls es N d) (hT : Top es N out) (ho : out.length = N) {k : Nat} (hk : k < N) : d.getD k 0 < N := by
  obtain ⟨n, a, h1, h2⟩ := h.snd k hk
  have := hT.short n a k (nodup_all hT.nodup hT.lt ho k hk) h2
  omega

theorem Ls.step {es : List (Nat × Nat)} {N : Nat} {d : List Int} (h : Ls es N d) {e : Nat × Nat} (he : e ∈ es) (h1 : e.1 < N) (h2 : e.2 < N) : Ls es N (d.set e.2 (d.getD e.1 0 + 1)) := by
  have hl := h.len
  refine ⟨by rw [List.length_set]; exact h.len, fun k hk => ?_⟩
  rw [getD_set _ _ _ _ (by omega)]
  split
  · rename_i hke
    obtain ⟨n, a, h3, h4⟩ := h.snd e.1 h1
    exact ⟨n + 1, a, by rw [h3]; rfl, e.1, h4, by rw [hke]; exact he⟩
  · exact h.snd k hk

theorem IsL.ge {es : List (Nat × Nat)} {N : Nat} {d : List Int} (h : IsL es N d) (hv : ∀ e ∈ es, e.1 < N ∧ e.2 < N) : ∀ n a k, k < N → W es n a k → (n : Int) ≤ d.getD k 0 := by
  intro n
  induction n with
  | zero => intro a k hk _; exact h.toLs.nonneg hk
  | succ n ih =>
    rintro a k hk ⟨c, hc, he⟩
    have h1 := ih a c (hv _ he).1 hc
    have h2 := h.rel _ he
    simp only at h2
    omega

theorem IsL.eq {es : List (Nat × Nat)} {N : Nat} {d d' : List Int} (h : IsL es N d) (h' : IsL es N d') (hv : ∀ e ∈ es, e.1 < N ∧ e.2 < N) : d = d' := by
  apply List.ext_getElem (by rw [h.len, h'.len])
  intro k h1 h2
  have hk : k < N := by rw [← h.len]; exact h1
  have e1 : d.getD k 0 = d[k] := by rw [List.getD_eq_getElem?_getD, List.getElem?_eq_getElem h1]; rfl
  have e2 : d'.getD k 0 = d'[k] := by rw [List.getD_eq_getElem?_getD, List.getElem?_eq_getElem h2]; rfl
  obtain ⟨n, a, h3, h4⟩ := h.snd k hk
  obtain ⟨m, b, h5, h6⟩ := h'.snd k hk
  have := h.ge hv m b k hk h6
  have := h'.ge hv n a k hk h4
  omega

/-- What may still be added. -/
def slack (N : Nat) (d : List Int) : Nat := (d.map fun x : Int => ((N : Int) - x).toNat).sum

theorem slack_set (N : Nat) : ∀ (d : List Int) (t : Nat) (v : Int), t < d.length → d.getD t 0 < v → v ≤ N → slack N (d.set t v) < slack N d
  | [], t, v, h, _, _ => by simp at h
  | a :: d, 0, v, h, h1, h2 => by
    simp only [List.getD_cons_zero] at h1
    simp only [slack, List.set_cons_zero, List.map_cons, List.sum_cons]
    omega
  | a :: d, t + 1, v, h, h1, h2 => by
    have := slack_set N d t v (by simpa using h) (by simpa using h1) h2
    simp only [slack, List.set_cons_succ, List.map_cons, List.sum_cons] at this ⊢
    omega

/-- While the order is gone through: what has come is relaxed, and of the node at hand the first edges. -/
structure Lj (es : List (Nat × Nat)) (N : Nat) (pre : List Nat) (x j : Nat) (d : List Int) : Prop extends Ls es N d where
  old : ∀ e ∈ es, e.1 ∈ pre → d.getD e.1 0 + 1 ≤ d.getD e.2 0
  new : ∀ e ∈ es.take j, e.1 = x → d.getD e.1 0 + 1 ≤ d.getD e.2 0

theorem Lj.skip {es : List (Nat × Nat)} {N x j : Nat} {pre : List Nat} {d : List Int} (h : Lj es N pre x j d) (hj : j < es.length) (hx : (es.getD j (0, 0)).1 ≠ x) : Lj es N pre x (j + 1) d := by
  refine ⟨h.toLs, h.old, fun e he hex => ?_⟩
  rw [take_succ_getD' es j (0, 0) hj] at he
  rcases List.mem_append.1 he with he | he
  · exact h.new e he hex
  · rw [List.mem_singleton.1 he] at hex
    exact (hx hex).elim

theorem Lj.top {es : List (Nat × Nat)} {N x j : Nat} {pre : List Nat} {d : List Int} (h : Lj es N pre x j d) (hj : j < es.length) (hx : (es.getD j (0, 0)).1 = x) (hv : ∀ e ∈ es, e.1 < N ∧ e.2 < N)
    (h2 : (es.getD j (0, 0)).2 ≠ x) (h3 : (es.getD j (0, 0)).2 ∉ pre) : Lj es N pre x (j + 1) (d.set (es.getD j (0, 0)).2 (max (d.getD (es.getD j (0, 0)).2 0) (d.getD x 0 + 1))) := by
  have hme : es.getD j (0, 0) ∈ es := by
    rw [List.getD_eq_getElem?_getD, List.getElem?_eq_getElem hj]
    exact List.getElem_mem hj
  have hm := hv _ hme
  have hl := h.len
  generalize hE : es.getD j (0, 0) = f at *
  have hg := fun k v => getD_set d f.2 v k (by omega)
  have hLs : Ls es N (d.set f.2 (max (d.getD f.2 0) (d.getD x 0 + 1))) := by
    rcases Int.le_total (d.getD f.2 0) (d.getD x 0 + 1) with h4 | h4
    · rw [Int.max_eq_right h4, ← hx]
      exact h.toLs.step hme hm.1 hm.2
    · rw [Int.max_eq_left h4]
      refine ⟨by rw [List.length_set]; exact hl, fun k hk => ?_⟩
      rw [hg]
      split
      · rename_i hk2; rw [← hk2]; exact h.snd k hk
      · exact h.snd k hk
  refine ⟨hLs, fun e he hep => ?_, fun e he hex => ?_⟩
  · have h4 := h.old e he hep
    rw [hg, hg, if_neg (fun hh => h3 (by rw [← hh]; exact hep))]
    split
    · rename_i h5; rw [h5] at h4; omega
    · exact h4
  · rw [hg, hg, if_neg (fun hh => h2 (by rw [← hh]; exact hex))]
    rw [take_succ_getD' es j (0, 0) hj, hE] at he
    rcases List.mem_append.1 he with he | he
    · have h4 := h.new e he hex
      split
      · rename_i h5; rw [h5] at h4; omega
      · exact h4
    · rw [List.mem_singleton.1 he, if_pos rfl, hx]
      omega

theorem Lj.shut {es : List (Nat × Nat)} {N x : Nat} {pre : List Nat} {d : List Int} (h : Lj es N pre x es.length d) : ∀ e ∈ es, e.1 ∈ pre ++ [x] → d.getD e.1 0 + 1 ≤ d.getD e.2 0 := by
  intro e he hm
  rcases List.mem_append.1 hm with hm | hm
  · exact h.old e he hm
  · exact h.new e (by rw [List.take_length]; exact he) (List.mem_singleton.1 hm)
end Go.Plain
/-
  Plain: what the needed edges reach; the condensed graph has no cycle; the edges of a cycle.
-/
namespace Go.Ds
open Go.Proofs Go.Plain

theorem IsD.iff {es : List (Nat × Nat)} {N s k : Nat} {d : List Int} (h : IsD es N s d) (hk : k < N) : 0 ≤ d.getD k 0 ↔ ∃ n, W es n s k := by
  constructor
  · intro h0
    exact ⟨_, (h.pos k hk h0).1⟩
  · rintro ⟨n, hw⟩
    apply Classical.byContradiction
    intro hh
    exact (h.neg k hk (by omega)).2 n hw
theorem W.mono {es fs : List (Nat × Nat)} (h : ∀ e ∈ es, e ∈ fs) : ∀ {n a b : Nat}, W es n a b → W fs n a b
  | 0, _, _, hw => hw
  | _ + 1, _, _, ⟨c, h1, h2⟩ => ⟨c, W.mono h h1, h _ h2⟩

/-- The edges that the others do not imply, as edges. -/
noncomputable def lss (es : List (Nat × Nat)) : List (Nat × Nat) := (ndd es es.length).map fun k => es.getD k (0, 0)
theorem ndd_mem {es : List (Nat × Nat)} {k : Nat} : k ∈ ndd es es.length ↔ k < es.length ∧ ¬ impP es k es.length := by
  unfold ndd
  rw [List.mem_filter, List.mem_range]
  constructor
  · rintro ⟨h1, h2⟩
    exact ⟨h1, by simpa using h2⟩
  · rintro ⟨h1, h2⟩
    exact ⟨h1, by simpa using h2⟩
theorem lss_mem {es : List (Nat × Nat)} {e : Nat × Nat} (h : e ∈ lss es) : e ∈ es := by
  unfold lss at h
  obtain ⟨k, hk, rfl⟩ := List.mem_map.1 h
  exact getD_mem (0, 0) (ndd_mem.1 hk).1

theorem lss_edge {es : List (Nat × Nat)} : ∀ (m k : Nat), k < es.length → (∀ n, W es n (es.getD k (0, 0)).1 (es.getD k (0, 0)).2 → n ≤ m) → ∃ n, W (lss es) n (es.getD k (0, 0)).1 (es.getD k (0, 0)).2 := by
  intro m
  induction m using Nat.strongRecOn with
  | ind m ihm =>
  intro k
  induction k using Nat.strongRecOn with
  | ind k ihk =>
  intro hk hb
  by_cases hi : impP es k es.length
  · obtain ⟨i, hil, h1, h2 | h2⟩ := hi
    · obtain ⟨hne, n, hw⟩ := h2
      have hedge : W es 1 (es.getD k (0, 0)).1 (es.getD i (0, 0)).2 := by
        refine ⟨_, rfl, ?_⟩
        rw [← h1]
        exact getD_mem (0, 0) hil
      have hm2 := hb _ (W_cat hedge hw)
      have hfirst : ∃ r, W (lss es) r (es.getD i (0, 0)).1 (es.getD i (0, 0)).2 := by
        refine ihm (m - 1) (by omega) i hil fun r hr => ?_
        rw [h1] at hr
        have := hb _ (W_cat hr hw)
        omega
      have hrest : ∀ q x, (∃ p, W es (p + 1) (es.getD k (0, 0)).1 x) → W es q x (es.getD k (0, 0)).2 → ∃ r, W (lss es) r x (es.getD k (0, 0)).2 := by
        intro q
        induction q with
        | zero => intro x _ hq; exact ⟨0, hq⟩
        | succ q ih =>
          rintro x ⟨p, hp⟩ hq
          obtain ⟨y, hxy, hq⟩ := W_cons.1 hq
          obtain ⟨j, hj, hje⟩ := List.mem_iff_getElem.1 hxy
          have hjd : es.getD j (0, 0) = (x, y) := by rw [List.getD_eq_getElem?_getD, List.getElem?_eq_getElem hj, hje]; rfl
          have h3 := ihm (m - 1) (by omega) j hj fun r hr => by
            rw [hjd] at hr
            have := hb _ (W_cat (W_cat hp hr) hq)
            omega
          rw [hjd] at h3
          obtain ⟨r1, hr1⟩ := h3
          obtain ⟨r2, hr2⟩ := ih y ⟨p + 1, x, hp, hxy⟩ hq
          exact ⟨_, W_cat hr1 hr2⟩
      obtain ⟨r1, hr1⟩ := hfirst
      obtain ⟨r2, hr2⟩ := hrest _ _ ⟨0, hedge⟩ hw
      rw [h1] at hr1
      exact ⟨_, W_cat hr1 hr2⟩
    · obtain ⟨h2, h3⟩ := h2
      have := ihk i h3 hil fun n hn => by
        rw [h1, h2] at hn
        exact hb n hn
      rwa [h1, h2] at this
  · refine ⟨1, _, rfl, ?_⟩
    unfold lss
    exact List.mem_map.2 ⟨k, ndd_mem.2 ⟨hk, hi⟩, rfl⟩

theorem lss_reach {es : List (Nat × Nat)} {N : Nat} (hs : ∀ n a b, b < N → W es n a b → n ≤ N) (hval : ∀ e ∈ es, e.1 < N ∧ e.2 < N) : ∀ {n a b : Nat}, W es n a b → ∃ r, W (lss es) r a b
  | 0, _, _, h => ⟨0, h⟩
  | n + 1, a, b, ⟨c, h1, h2⟩ => by
    obtain ⟨r1, hr1⟩ := lss_reach hs hval h1
    obtain ⟨j, hj, hje⟩ := List.mem_iff_getElem.1 h2
    have hjd : es.getD j (0, 0) = (c, b) := by rw [List.getD_eq_getElem?_getD, List.getElem?_eq_getElem hj, hje]; rfl
    have h3 := lss_edge (es := es) N j hj fun n hn => by
      rw [hjd] at hn
      exact hs n _ _ (hval _ h2).2 hn
    rw [hjd] at h3
    obtain ⟨r2, hr2⟩ := h3
    exact ⟨_, W_cat hr1 hr2⟩

/-! The condensed graph. -/
theorem lds_lt (ds : Nat → List Int) {i j : Nat} (hij : i < j) (hl : ld ds i = i) : (lds ds i).length < (lds ds j).length := by
  have := lds_mono ds (show i + 1 ≤ j by omega)
  rw [lds_succ, if_pos hl, List.length_append, List.length_singleton] at this
  omega
theorem cn_mu {ds : Nat → List Int} {N : Nat} (h : Eqv ds N) {x y : Nat} (hx : x < N) (hy : y < N) (e : cn ds N x = cn ds N y) : mu ds x y = true := by
  have hlx := ld_spec h hx
  have hly := ld_spec h hy
  have ix := ld_idem h hx
  have iy := ld_idem h hy
  unfold cn at e
  rw [if_pos (by omega), if_pos (by omega)] at e
  have hll : ld ds x = ld ds y := by
    rcases Nat.lt_trichotomy (ld ds x) (ld ds y) with h1 | h1 | h1
    · have := lds_lt ds h1 ix; omega
    · exact h1
    · have := lds_lt ds h1 iy; omega
  have h2 := hly.2.1
  rw [← hll] at h2
  exact h.tr _ _ _ hx (by omega) hy (h.sy _ _ (by omega) hx hlx.2.1) h2
theorem cn_eq {ds : Nat → List Int} {N : Nat} (h : Eqv ds N) {x y : Nat} (hx : x < N) (hy : y < N) (e : mu ds x y = true) : cn ds N x = cn ds N y := by
  unfold cn
  rw [ld_eq h hx hy e]
theorem sd_bound {ds : Nat → List Int} {N : Nat} {es : List (Nat × Nat)} (h : Eqv ds N) (hval : ∀ e ∈ es, e.1 < N ∧ e.2 < N) : ∀ e ∈ xe ds N es, e.1 < (lds ds N).length ∧ e.2 < (lds ds N).length := fun e he => by
  unfold xe at he
  obtain ⟨x, hx, rfl⟩ := List.mem_map.1 he
  have hm := hval x (List.mem_filter.1 hx).1
  have c1 := cn_range h hm.1
  have c2 := cn_range h hm.2
  simp only; omega
theorem xe_mem {ds : Nat → List Int} {N : Nat} {es : List (Nat × Nat)} (h : Eqv ds N) (hval : ∀ e ∈ es, e.1 < N ∧ e.2 < N) {e : Nat × Nat} (he : e ∈ xe ds N es) : ∃ x ∈ es, cn ds N x.1 = e.1 ∧ cn ds N x.2 = e.2 ∧ e.1 ≠ e.2 := by
  unfold xe at he
  obtain ⟨x, hx, rfl⟩ := List.mem_map.1 he
  have hx2 := List.mem_filter.1 hx
  have hm := hval x hx2.1
  have c1 := cn_range h hm.1
  have c2 := cn_range h hm.2
  have hne := of_decide_eq_true hx2.2
  refine ⟨x, hx2.1, ?_, ?_, ?_⟩ <;> simp only <;> omega
theorem cond_reach {ds : Nat → List Int} {N : Nat} {es : List (Nat × Nat)} (hds : ∀ i, i < N → IsD es N i (ds i)) (hval : ∀ e ∈ es, e.1 < N ∧ e.2 < N) : ∀ {n a b : Nat}, W (xe ds N es) n a b → ∀ x y, x < N → y < N → cn ds N x = a → cn ds N y = b → ∃ m, W es m x y
  | 0, a, b, h, x, y, hx, hy, h1, h2 => by
    have e : a = b := h
    have := cn_mu (eqv_of hds) hx hy (by rw [h1, h2, e])
    exact ((mu_iff hds hx hy).1 this).1
  | n + 1, a, b, ⟨c, hw, he⟩, x, y, hx, hy, h1, h2 => by
    obtain ⟨z, hz, c1, c2, _⟩ := xe_mem (eqv_of hds) hval he
    have hm := hval z hz
    obtain ⟨m1, hm1⟩ := cond_reach hds hval hw x z.1 hx hm.1 h1 c1
    have h3 := cn_mu (eqv_of hds) hm.2 hy (by rw [c2, h2])
    obtain ⟨⟨m2, hm2⟩, _⟩ := (mu_iff hds hm.2 hy).1 h3
    exact ⟨_, W_cat (n := m1 + 1) ⟨z.1, hm1, hz⟩ hm2⟩
theorem cond_acyclic {ds : Nat → List Int} {N : Nat} {es : List (Nat × Nat)} (hds : ∀ i, i < N → IsD es N i (ds i)) (hval : ∀ e ∈ es, e.1 < N ∧ e.2 < N) (n a : Nat) : ¬ W (xe ds N es) (n + 1) a a := by
  intro hw
  obtain ⟨b, he, hw⟩ := W_cons.1 hw
  obtain ⟨z, hz, c1, c2, hne⟩ := xe_mem (eqv_of hds) hval he
  have hm := hval z hz
  obtain ⟨m, hm2⟩ := cond_reach hds hval hw z.2 z.1 hm.2 hm.1 c2 c1
  have h1 : mu ds z.1 z.2 = true := (mu_iff hds hm.1 hm.2).2 ⟨⟨1, z.1, rfl, hz⟩, m, hm2⟩
  have := cn_eq (eqv_of hds) hm.1 hm.2 h1
  simp only at c1 c2 hne
  omega
theorem W_sd {ds : Nat → List Int} {N : Nat} {es : List (Nat × Nat)} (h : Eqv ds N) (hN : N ≤ 200) (hval : ∀ e ∈ es, e.1 < N ∧ e.2 < N) : ∀ e, e ∈ sd (xe ds N es) ↔ e ∈ xe ds N es := fun e =>
  mem_sd (fun e he => by have := sd_bound h hval e he; have := lds_le ds N; omega) e
theorem sd_le {es : List (Nat × Nat)} (h : ∀ e ∈ es, e.1 < 256 ∧ e.2 < 256) : (sd es).length ≤ es.length := by
  unfold sd
  have := dd_le (srt es) (srt es).length
  rw [(srt_perm h).length_eq] at this
  rwa [(srt_perm h).length_eq]

/-! The edges of a cycle. -/
theorem Ch_at {es : List (Nat × Nat)} : ∀ {l : List Nat} {a b : Nat}, Ch es l a b → ∀ j, j < l.length → l.getD j 0 < es.length ∧ (j = 0 → (es.getD (l.getD j 0) (0, 0)).1 = a) ∧ (j + 1 < l.length → (es.getD (l.getD j 0) (0, 0)).2 = (es.getD (l.getD (j + 1) 0) (0, 0)).1) ∧ (j + 1 = l.length → (es.getD (l.getD j 0) (0, 0)).2 = b)
  | [], _, _, _, j, hj => absurd hj (Nat.not_lt_zero _)
  | i :: l, a, b, ⟨h1, h2, h3⟩, 0, _ => by
    refine ⟨h1, fun _ => h2, fun h4 => ?_, fun h4 => ?_⟩
    · simp only [List.length_cons] at h4
      have := (Ch_at h3 0 (by omega)).2.1 rfl
      rw [List.getD_cons_zero, List.getD_cons_succ]
      exact this.symm
    · simp only [List.length_cons] at h4
      cases l with
      | nil => exact h3
      | cons => simp at h4
  | i :: l, a, b, ⟨h1, h2, h3⟩, j + 1, hj => by
    simp only [List.length_cons] at hj
    have := Ch_at h3 j (by omega)
    rw [List.getD_cons_succ]
    refine ⟨this.1, fun h4 => by omega, fun h4 => ?_, fun h4 => ?_⟩
    · rw [List.getD_cons_succ]
      exact this.2.2.1 (by simp only [List.length_cons] at h4; omega)
    · exact this.2.2.2 (by simp only [List.length_cons] at h4; omega)
theorem cyc_next {es : List (Nat × Nat)} {l : List Nat} {a : Nat} (h : Ch es l a a) {j : Nat} (hj : j < l.length) : l.getD j 0 < es.length ∧ l.getD ((j + 1) % l.length) 0 < es.length ∧ (es.getD (l.getD j 0) (0, 0)).2 = (es.getD (l.getD ((j + 1) % l.length) 0) (0, 0)).1 := by
  have h1 := Ch_at h j hj
  by_cases h2 : j + 1 < l.length
  · rw [Nat.mod_eq_of_lt h2]
    exact ⟨h1.1, (Ch_at h (j + 1) h2).1, h1.2.2.1 h2⟩
  · have h3 : j + 1 = l.length := by omega
    rw [h3, Nat.mod_self]
    have h0 := Ch_at h 0 (by omega)
    exact ⟨h1.1, h0.1, by rw [h1.2.2.2 h3, h0.2.1 rfl]⟩
theorem found_iff {es : List (Nat × Nat)} {N : Nat} (T : HasD es N) {c : List Nat} (hc : Mst (goOk es N) (fun i => dT es N i i) (fun i => cyc es N i i) es.length c) : (0 < c.length ↔ ∃ n a, W es (n + 1) a a) ∧ (0 < c.length → ∃ a, Ch es c a a) := by
  have h1 : 0 < c.length → ∃ a, Ch es c a a := fun h => by
    rcases hc with ⟨h1, _⟩ | ⟨k, h1, h2, h3, _⟩
    · rw [h1] at h; simp at h
    · exact ⟨_, by rw [h3]; exact (cyc_ch T (by omega) h1 h2).1⟩
  refine ⟨⟨fun h => ?_, fun ⟨n, a, hw⟩ => ?_⟩, h1⟩
  · obtain ⟨a, ha⟩ := h1 h
    cases c with
    | nil => simp at h
    | cons i l => exact ⟨_, _, Ch.around ha⟩
  · obtain ⟨l, h2, h3⟩ := hw.ch
    obtain ⟨j, hj, hle⟩ := least_of l (by intro e; rw [e] at h2; simp at h2)
    obtain ⟨b1, b2, b3⟩ := least_cycle T h3 hj hle
    rcases hc with ⟨_, h4⟩ | ⟨k, h4, h5, h6, _⟩
    · exact (h4 j b1 b2).elim
    · rw [h6]; simp [cyc]
end Go.Ds
/-
  Contracts: Path, the reference's Walk.
-/
namespace Go.Ds
open Go.Proofs Go.Plain
variable {H : Heap}

theorem path_ok (N : Nat) (v : Value) (es : List (Nat × Nat)) (hv : Eg H v es) (hN : N ≤ 200) (he : es.length ≤ 1000) (hval : ∀ e ∈ es, e.1 < N ∧ e.2 < N) (s t : Nat) (hs : s < N) (ht : t < N) :
    Fn Try.prog 14 [.agg #[I N, v], I s, I t] H fun r H' => ∃ (d : List Int) (w : Value), IsD (tE es) N t d ∧ (∀ k, k < N → d.getD k 0 ≤ N) ∧ r = .tuple #[w, .bool (decide (0 ≤ d.getD s 0)), I 0] ∧
      St Try.prog H H' [⟨w, 1, nts (if 0 ≤ d.getD s 0 then pF es 0 d (d.getD s 0).toNat s else [])⟩] := by
  refine Fn.of_wp (fn := Try.f14) rfl rfl (by kernel_rfl) fun l hl => ?_
  have hn : l.length = 27 := by rw [hl]; rfl
  have g0 : get l 0 = .agg #[I N, v] := by rw [hl]; rfl
  have g1 : get l 1 = I s := by rw [hl]; rfl
  have g2 : get l 2 = I t := by rw [hl]; rfl
  clear hl
  repeat first | (with_reducible first | refine Wp.seq ?_ | refine Wp.reg ?_ | refine Wp.block ?_ | refine Wp.skip ?_ | refine Wp.ret ?_ | refine Wp.exit ?_ | refine Wp.label ?_ | refine Wp.condG ?_) | simp (disch := omega) only [↓RP, RQ, TS, TR, ↓reduceIte, Nat.reduceEqDiff, Nat.reduceLT, Nat.reduceLeDiff, Int.reduceLT, Int.reduceLE, Int.reduceEq, Int.reduceAdd, Int.reduceSub, Int.reduceNeg, Int.reduceToNat, Nat.reduceAdd, Nat.reduceMul, Nat.reduceSub, reduceCtorEq, RC, Int.cast_ofNat_Int, hn, g0, g1, g2]
  refine (St.refl _ H).eNew 2 [I N, v] rfl rfl (by simp [hv.one]; rfl) tS27 fun A H1 hS => ?_
  repeat first | (with_reducible first | refine Wp.seq ?_ | refine Wp.reg ?_ | refine Wp.block ?_ | refine Wp.skip ?_ | refine Wp.ret ?_ | refine Wp.exit ?_ | refine Wp.label ?_ | refine Wp.condG ?_) | simp (disch := omega) only [↓RP, RQ, TS, TR, ↓reduceIte, Nat.reduceEqDiff, Nat.reduceLT, Nat.reduceLeDiff, Int.reduceLT, Int.reduceLE, Int.reduceEq, Int.reduceAdd, Int.reduceSub, Int.reduceNeg, Int.reduceToNat, Nat.reduceAdd, Nat.reduceMul, Nat.reduceSub, reduceCtorEq, RC, Int.cast_ofNat_Int, hn, g0, g1, g2, hS.ldA 0 rfl]
  refine hS.eSlice [I s, I t] tP29 tF29 rfl rfl (by simp [Value.cells]) rfl rfl (by decide) (by decide) fun x H2 hS => ?_
  repeat first | (with_reducible first | refine Wp.seq ?_ | refine Wp.reg ?_ | refine Wp.block ?_ | refine Wp.skip ?_ | refine Wp.ret ?_ | refine Wp.exit ?_ | refine Wp.label ?_ | refine Wp.condG ?_) | simp (disch := omega) only [↓RP, RQ, TS, TR, ↓reduceIte, Nat.reduceEqDiff, Nat.reduceLT, Nat.reduceLeDiff, Int.reduceLT, Int.reduceLE, Int.reduceEq, Int.reduceAdd, Int.reduceSub, Int.reduceNeg, Int.reduceToNat, Nat.reduceAdd, Nat.reduceMul, Nat.reduceSub, reduceCtorEq, RC, Int.cast_ofNat_Int, hn, g0, g1, g2]
  refine callFW_of (with_ok N v es (hS.base hv) hN he hval x [s, t] (hS.rd 1 rfl) (by simp) (by simp [hs, ht])) ?_
  rintro r H3 ⟨rfl, hS3⟩
  have hS := hS.trans hS3
  repeat first | (with_reducible first | refine Wp.seq ?_ | refine Wp.reg ?_ | refine Wp.block ?_ | refine Wp.skip ?_ | refine Wp.ret ?_ | refine Wp.exit ?_ | refine Wp.label ?_ | refine Wp.condG ?_) | simp (disch := omega) only [↓RP, RQ, TS, TR, ↓reduceIte, Nat.reduceEqDiff, Nat.reduceLT, Nat.reduceLeDiff, Int.reduceLT, Int.reduceLE, Int.reduceEq, Int.reduceAdd, Int.reduceSub, Int.reduceNeg, Int.reduceToNat, Nat.reduceAdd, Nat.reduceMul, Nat.reduceSub, reduceCtorEq, RC, Int.cast_ofNat_Int, hn, g0, g1, g2, hS.ldA 0 rfl]
  refine callFW_of (walk_ok N v es (hS.base hv) hN he hval s t 0 hs ht (Nat.zero_le _)) ?_
  rintro r H4 ⟨d, w, hd, hdN, rfl, hS4⟩
  have hS := hS.trans hS4
  have hw := hS.rd 2 rfl
  repeat first | (with_reducible first | refine Wp.seq ?_ | refine Wp.reg ?_ | refine Wp.block ?_ | refine Wp.skip ?_ | refine Wp.ret ?_ | refine Wp.exit ?_ | refine Wp.label ?_ | refine Wp.condG ?_) | simp (disch := omega) only [↓RP, RQ, TS, TR, ↓reduceIte, Nat.reduceEqDiff, Nat.reduceLT, Nat.reduceLeDiff, Int.reduceLT, Int.reduceLE, Int.reduceEq, Int.reduceAdd, Int.reduceSub, Int.reduceNeg, Int.reduceToNat, Nat.reduceAdd, Nat.reduceMul, Nat.reduceSub, reduceCtorEq, RC, Int.cast_ofNat_Int, hn, g0, g1, g2, hw.noTuple]
  exact ⟨d, w, hd, hdN, rfl, hS.sub (by simp)⟩

theorem pF_length (es : List (Nat × Nat)) (first : Nat) (d : List Int) : ∀ m a, (pF es first d m a).length = m
  | 0, _ => rfl
  | m + 1, a => by rw [pF, List.length_cons, pF_length es first d m]

theorem refWalk_ok (N : Nat) (ev st : Value) (es : List (Nat × Nat)) (ws : Nat → Value) (rows : Nat → List Nat) (d : List Int) (s t : Nat) (hE : Eg H ev es) (hst : Sl1 H st ws (List.range N)) (hrow : ∀ i, i < N → Sl1 H (ws i) (fun n : Nat => I n) (rows i))
    (hrows : ∀ i, i < N → IsS es N i (rows i)) (hd : IsD (tE es) N t d) (hval : ∀ e ∈ es, e.1 < N ∧ e.2 < N) (hs : s < N) (ht : t < N) (he : es.length ≤ 1000) (hN : N ≤ 200) (hpos : 0 < d.getD s 0) (hdN : d.getD s 0 ≤ 1000) :
    Fn Try.prog 18 [ev, st, I s, I t] H fun r H' => St Try.prog H H' [⟨r, 1, nts (pF es 0 d (d.getD s 0).toNat s)⟩] := by
  have hsd := steps_eq hd hrows ht hs (fun e => by subst e; rw [hd.self hs] at hpos; omega)
  have hsd2 : ((rows s).getD t 0 : Int) = d.getD s 0 := by
    split at hsd <;> omega
  have hrl : (List.range N).length = N := List.length_range
  have hrlen := fun i hi => (hrows i hi).len
  have hrls := hrlen s hs
  have hrow0 := hrow s hs
  refine Fn.of_wp (fn := Try.f18) rfl rfl (by kernel_rfl) fun l hl => ?_
  have hn : l.length = 89 := by rw [hl]; rfl
  have g0 : get l 0 = ev := by rw [hl]; rfl
  have g1 : get l 1 = st := by rw [hl]; rfl
  have g2 : get l 2 = I s := by rw [hl]; rfl
  have g3 : get l 3 = I t := by rw [hl]; rfl
  clear hl
  repeat first | (with_reducible first | refine Wp.seq ?_ | refine Wp.reg ?_ | refine Wp.block ?_ | refine Wp.skip ?_ | refine Wp.ret ?_ | refine Wp.exit ?_ | refine Wp.label ?_ | refine Wp.condG ?_) | simp (disch := omega) only [↓RP, RQ, TS, TR, ↓reduceIte, Nat.reduceEqDiff, Nat.reduceLT, Nat.reduceLeDiff, Int.reduceLT, Int.reduceLE, Int.reduceEq, Int.reduceAdd, Int.reduceSub, Int.reduceNeg, Int.reduceToNat, Nat.reduceAdd, Nat.reduceMul, Nat.reduceSub, reduceCtorEq, RC, Int.cast_ofNat_Int, hn, g0, g1, g2, g3, hst.idx, hst.ld 0, getD_range, hrow0.idx, hrow0.ld 0, hsd2]
  refine Wp.loopN (fun m l H' => l.length = 89 ∧ get l 0 = ev ∧ get l 1 = st ∧ get l 3 = I t ∧ ∃ (a : Nat) (o : Value) (p : List Nat), get l 9 = o ∧ get l 10 = I a ∧ get l 11 = I m ∧ a < N ∧ d.getD a 0 = (m : Int) ∧
    p ++ pF es 0 d m a = pF es 0 d (d.getD s 0).toNat s ∧ p.length + m = (d.getD s 0).toNat ∧ St Try.prog H H' [⟨o, 1, nts p⟩]) (d.getD s 0).toNat ?_ ?_
  · repeat first | (with_reducible first | refine Wp.seq ?_ | refine Wp.reg ?_ | refine Wp.block ?_ | refine Wp.skip ?_ | refine Wp.ret ?_ | refine Wp.exit ?_ | refine Wp.label ?_ | refine Wp.condG ?_) | simp (disch := omega) only [↓RP, RQ, TS, TR, ↓reduceIte, Nat.reduceEqDiff, Nat.reduceLT, Nat.reduceLeDiff, Int.reduceLT, Int.reduceLE, Int.reduceEq, Int.reduceAdd, Int.reduceSub, Int.reduceNeg, Int.reduceToNat, Nat.reduceAdd, Nat.reduceMul, Nat.reduceSub, reduceCtorEq, RC, Int.cast_ofNat_Int, hn, g0, g1, g2, g3]
    refine ⟨s, _, [], rfl, rfl, ?_, hs, by omega, rfl, by simp, (St.refl _ H).nil 0⟩
    rw [Int.toNat_of_nonneg (by omega)]
  clear hn g0 g1 g2 g3
  rintro m l H' ⟨hn, g0, g1, g3, a, o, p, g9, g10, g11, haN, hda, hp, hpl, hS⟩
  repeat first | (with_reducible first | refine Wp.seq ?_ | refine Wp.reg ?_ | refine Wp.block ?_ | refine Wp.skip ?_ | refine Wp.ret ?_ | refine Wp.exit ?_ | refine Wp.label ?_ | refine Wp.condG ?_) | simp (disch := omega) only [↓RP, RQ, TS, TR, ↓reduceIte, Nat.reduceEqDiff, Nat.reduceLT, Nat.reduceLeDiff, Int.reduceLT, Int.reduceLE, Int.reduceEq, Int.reduceAdd, Int.reduceSub, Int.reduceNeg, Int.reduceToNat, Nat.reduceAdd, Nat.reduceMul, Nat.reduceSub, reduceCtorEq, RC, Int.cast_ofNat_Int, hn, g0, g1, g3, g9, g10, g11]
  refine condW_split (fun h => ?_) (fun h => ?_)
  · obtain ⟨m', rfl⟩ : ∃ m', m = m' + 1 := ⟨m - 1, by omega⟩
    have hE1 : Sl2 H' ev _ _ es := hS.base hE
    have hst1 : Sl1 H' st ws (List.range N) := hS.base hst
    obtain ⟨k1, k2, k3, k4⟩ := pk_spec es 0 d m' a (nearer hval (by simpa using hd) a m' haN hda)
    repeat first | (with_reducible first | refine Wp.seq ?_ | refine Wp.reg ?_ | refine Wp.block ?_ | refine Wp.skip ?_ | refine Wp.ret ?_ | refine Wp.exit ?_ | refine Wp.label ?_ | refine Wp.condG ?_) | simp (disch := omega) only [↓RP, RQ, TS, TR, ↓reduceIte, Nat.reduceEqDiff, Nat.reduceLT, Nat.reduceLeDiff, Int.reduceLT, Int.reduceLE, Int.reduceEq, Int.reduceAdd, Int.reduceSub, Int.reduceNeg, Int.reduceToNat, Nat.reduceAdd, Nat.reduceMul, Nat.reduceSub, reduceCtorEq, RC, Int.cast_ofNat_Int, hn, g0, g1, g3, g9, g10, g11]
    refine Wp.mono (Q := fun e l2 H2 => e = .exit 2 ∧ H2 = H' ∧ l2.length = 89 ∧ get l2 0 = ev ∧ get l2 1 = st ∧ get l2 3 = I t ∧ get l2 9 = o ∧ get l2 10 = I a ∧ get l2 11 = I (m' + 1 : Nat) ∧ get l2 12 = I (pk es 0 d m' a)) ?_ ?_
    · refine Wp.loopN (fun n l H2 => H2 = H' ∧ l.length = 89 ∧ get l 0 = ev ∧ get l 1 = st ∧ get l 3 = I t ∧ get l 9 = o ∧ get l 10 = I a ∧ get l 11 = I (m' + 1 : Nat) ∧ ∃ (k : Nat) (x : Int), n + k = es.length ∧ get l 13 = I k ∧ get l 12 = I x ∧
      ((x = -1 ∧ k ≤ pk es 0 d m' a) ∨ x = pk es 0 d m' a)) es.length ?_ ?_
      · repeat first | (with_reducible first | refine Wp.seq ?_ | refine Wp.reg ?_ | refine Wp.block ?_ | refine Wp.skip ?_ | refine Wp.ret ?_ | refine Wp.exit ?_ | refine Wp.label ?_ | refine Wp.condG ?_) | simp (disch := omega) only [↓RP, RQ, TS, TR, ↓reduceIte, Nat.reduceEqDiff, Nat.reduceLT, Nat.reduceLeDiff, Int.reduceLT, Int.reduceLE, Int.reduceEq, Int.reduceAdd, Int.reduceSub, Int.reduceNeg, Int.reduceToNat, Nat.reduceAdd, Nat.reduceMul, Nat.reduceSub, reduceCtorEq, RC, Int.cast_ofNat_Int, hn, g0, g1, g3, g9, g10, g11]
        exact ⟨0, -1, rfl, rfl, rfl, .inl ⟨rfl, Nat.zero_le _⟩⟩
      clear hn g0 g1 g3 g9 g10 g11
      rintro n l H2 ⟨rfl, hn, g0, g1, g3, g9, g10, g11, k, x, hk, g13, g12, hx⟩
      repeat first | (with_reducible first | refine Wp.seq ?_ | refine Wp.reg ?_ | refine Wp.block ?_ | refine Wp.skip ?_ | refine Wp.ret ?_ | refine Wp.exit ?_ | refine Wp.label ?_ | refine Wp.condG ?_) | simp (disch := omega) only [↓RP, RQ, TS, TR, ↓reduceIte, Nat.reduceEqDiff, Nat.reduceLT, Nat.reduceLeDiff, Int.reduceLT, Int.reduceLE, Int.reduceEq, Int.reduceAdd, Int.reduceSub, Int.reduceNeg, Int.reduceToNat, Nat.reduceAdd, Nat.reduceMul, Nat.reduceSub, reduceCtorEq, RC, Int.cast_ofNat_Int, hn, g0, g1, g3, g9, g10, g11, g12, g13, hE1.len]
      refine letG_split (fun h1 => ?_) (fun h1 => ?_)
      · repeat first | (with_reducible first | refine Wp.seq ?_ | refine Wp.reg ?_ | refine Wp.block ?_ | refine Wp.skip ?_ | refine Wp.ret ?_ | refine Wp.exit ?_ | refine Wp.label ?_ | refine Wp.condG ?_) | simp (disch := omega) only [↓RP, RQ, TS, TR, ↓reduceIte, Nat.reduceEqDiff, Nat.reduceLT, Nat.reduceLeDiff, Int.reduceLT, Int.reduceLE, Int.reduceEq, Int.reduceAdd, Int.reduceSub, Int.reduceNeg, Int.reduceToNat, Nat.reduceAdd, Nat.reduceMul, Nat.reduceSub, reduceCtorEq, RC, Int.cast_ofNat_Int, hn, g0, g1, g3, g9, g10, g11, g12, g13, h1]
        refine condW_split (fun h2 => ?_) (fun h2 => ?_)
        · have hkp : k ≤ pk es 0 d m' a := by
            rcases hx with hx | hx
            · exact hx.2
            · omega
          have hx1 : x = -1 := by
            rcases hx with hx | hx
            · exact hx.1
            · omega
          have hkl : k < es.length := by omega
          have hm := hval _ (getD_mem (0, 0) hkl)
          have hme := getD_mem (0, 0) hkl
          have hr1 := (hrow _ hm.2)
          have hr2 : Sl1 H2 (ws (es.getD k (0, 0)).2) (fun n : Nat => I n) (rows (es.getD k (0, 0)).2) := hS.base hr1
          have hr3 := hrlen _ hm.2
          have hno : ¬ mt d m' a (es.getD k (0, 0)) = true → k ≠ pk es 0 d m' a := fun h e => h (by rw [e]; exact k3)
          have hyes : mt d m' a (es.getD k (0, 0)) = true → k = pk es 0 d m' a := fun h => by
            rcases Nat.lt_or_ge k (pk es 0 d m' a) with h5 | h5
            · rw [k4 k (Nat.zero_le _) h5] at h; cases h
            · omega
          repeat first | (with_reducible first | refine Wp.seq ?_ | refine Wp.reg ?_ | refine Wp.block ?_ | refine Wp.skip ?_ | refine Wp.ret ?_ | refine Wp.exit ?_ | refine Wp.label ?_ | refine Wp.condG ?_) | simp (disch := omega) only [↓RP, RQ, TS, TR, ↓reduceIte, Nat.reduceEqDiff, Nat.reduceLT, Nat.reduceLeDiff, Int.reduceLT, Int.reduceLE, Int.reduceEq, Int.reduceAdd, Int.reduceSub, Int.reduceNeg, Int.reduceToNat, Nat.reduceAdd, Nat.reduceMul, Nat.reduceSub, reduceCtorEq, RC, Int.cast_ofNat_Int, hn, g0, g1, g3, g9, g10, g11, g12, g13, hE1.idx, hE1.fld, hE1.ld0 (0, 0), hE1.ld1 (0, 0), hst1.idx, hst1.ld 0, getD_range, hr2.idx, hr2.ld 0]
          refine letG_split (fun h3 => ?_) (fun h3 => ?_)
          · have href := ref_mt hd hrows hval ht hme (m := m') (by rw [show (es.getD k (0, 0)).1 = a from by omega]; exact hda)
            repeat first | (with_reducible first | refine Wp.seq ?_ | refine Wp.reg ?_ | refine Wp.block ?_ | refine Wp.skip ?_ | refine Wp.ret ?_ | refine Wp.exit ?_ | refine Wp.label ?_ | refine Wp.condG ?_) | simp (disch := omega) only [↓RP, RQ, TS, TR, ↓reduceIte, Nat.reduceEqDiff, Nat.reduceLT, Nat.reduceLeDiff, Int.reduceLT, Int.reduceLE, Int.reduceEq, Int.reduceAdd, Int.reduceSub, Int.reduceNeg, Int.reduceToNat, Nat.reduceAdd, Nat.reduceMul, Nat.reduceSub, reduceCtorEq, RC, Int.cast_ofNat_Int, hn, g0, g1, g3, g9, g10, g11, g12, g13, h3, hE1.idx, hE1.fld, hE1.ld0 (0, 0), hE1.ld1 (0, 0)]
            refine letG_split (fun h4 => ?_) (fun h4 => ?_)
            · repeat first | (with_reducible first | refine Wp.seq ?_ | refine Wp.reg ?_ | refine Wp.block ?_ | refine Wp.skip ?_ | refine Wp.ret ?_ | refine Wp.exit ?_ | refine Wp.label ?_ | refine Wp.condG ?_) | simp (disch := omega) only [↓RP, RQ, TS, TR, ↓reduceIte, Nat.reduceEqDiff, Nat.reduceLT, Nat.reduceLeDiff, Int.reduceLT, Int.reduceLE, Int.reduceEq, Int.reduceAdd, Int.reduceSub, Int.reduceNeg, Int.reduceToNat, Nat.reduceAdd, Nat.reduceMul, Nat.reduceSub, reduceCtorEq, RC, Int.cast_ofNat_Int, hn, g0, g1, g3, g9, g10, g11, g12, g13, h3, h4, hE1.idx, hE1.fld, hE1.ld0 (0, 0), hE1.ld1 (0, 0)]
              refine letG_split' (fun h5 => ?_) (fun h5 => ?_)
              · have hy := hyes ((mt_iff ..).2 ⟨by omega, href.2 (.inl ⟨by omega, by omega⟩)⟩)
                repeat first | (with_reducible first | refine Wp.seq ?_ | refine Wp.reg ?_ | refine Wp.block ?_ | refine Wp.skip ?_ | refine Wp.ret ?_ | refine Wp.exit ?_ | refine Wp.label ?_ | refine Wp.condG ?_) | simp (disch := omega) only [↓RP, RQ, TS, TR, ↓reduceIte, Nat.reduceEqDiff, Nat.reduceLT, Nat.reduceLeDiff, Int.reduceLT, Int.reduceLE, Int.reduceEq, Int.reduceAdd, Int.reduceSub, Int.reduceNeg, Int.reduceToNat, Nat.reduceAdd, Nat.reduceMul, Nat.reduceSub, reduceCtorEq, RC, Int.cast_ofNat_Int, hn, g0, g1, g3, g9, g10, g11, g12, g13, h3, h4, h5, wrap_fit]
                exact ⟨n - 1, by omega, k + 1, k, by omega, rfl, rfl, .inr (by omega)⟩
              · have hy := hno (fun hh => by
                  rcases href.1 ((mt_iff ..).1 hh).2 with h6 | h6
                  · omega
                  · omega)
                repeat first | (with_reducible first | refine Wp.seq ?_ | refine Wp.reg ?_ | refine Wp.block ?_ | refine Wp.skip ?_ | refine Wp.ret ?_ | refine Wp.exit ?_ | refine Wp.label ?_ | refine Wp.condG ?_) | simp (disch := omega) only [↓RP, RQ, TS, TR, ↓reduceIte, Nat.reduceEqDiff, Nat.reduceLT, Nat.reduceLeDiff, Int.reduceLT, Int.reduceLE, Int.reduceEq, Int.reduceAdd, Int.reduceSub, Int.reduceNeg, Int.reduceToNat, Nat.reduceAdd, Nat.reduceMul, Nat.reduceSub, reduceCtorEq, RC, Int.cast_ofNat_Int, hn, g0, g1, g3, g9, g10, g11, g12, g13, h3, h4, h5, wrap_fit]
                exact ⟨n - 1, by omega, k + 1, x, by omega, rfl, rfl, .inl ⟨hx1, by omega⟩⟩
            · have h6 : (1 : Int) < ((m' + 1 : Nat) : Int) := by omega
              repeat first | (with_reducible first | refine Wp.seq ?_ | refine Wp.reg ?_ | refine Wp.block ?_ | refine Wp.skip ?_ | refine Wp.ret ?_ | refine Wp.exit ?_ | refine Wp.label ?_ | refine Wp.condG ?_) | simp (disch := omega) only [↓RP, RQ, TS, TR, ↓reduceIte, Nat.reduceEqDiff, Nat.reduceLT, Nat.reduceLeDiff, Int.reduceLT, Int.reduceLE, Int.reduceEq, Int.reduceAdd, Int.reduceSub, Int.reduceNeg, Int.reduceToNat, Nat.reduceAdd, Nat.reduceMul, Nat.reduceSub, reduceCtorEq, RC, Int.cast_ofNat_Int, hn, g0, g1, g3, g9, g10, g11, g12, g13, h3, h4, h6, wrap_fit]
              refine condW_split (fun h5 => ?_) (fun h5 => ?_)
              · have hy := hyes ((mt_iff ..).2 ⟨by omega, href.2 (.inr ⟨by omega, by omega⟩)⟩)
                repeat first | (with_reducible first | refine Wp.seq ?_ | refine Wp.reg ?_ | refine Wp.block ?_ | refine Wp.skip ?_ | refine Wp.ret ?_ | refine Wp.exit ?_ | refine Wp.label ?_ | refine Wp.condG ?_) | simp (disch := omega) only [↓RP, RQ, TS, TR, ↓reduceIte, Nat.reduceEqDiff, Nat.reduceLT, Nat.reduceLeDiff, Int.reduceLT, Int.reduceLE, Int.reduceEq, Int.reduceAdd, Int.reduceSub, Int.reduceNeg, Int.reduceToNat, Nat.reduceAdd, Nat.reduceMul, Nat.reduceSub, reduceCtorEq, RC, Int.cast_ofNat_Int, hn, g0, g1, g3, g9, g10, g11, g12, g13, wrap_fit]
                exact ⟨n - 1, by omega, k + 1, k, by omega, rfl, rfl, .inr (by omega)⟩
              · have hy := hno (fun hh => by
                  rcases href.1 ((mt_iff ..).1 hh).2 with h7 | h7
                  · omega
                  · omega)
                repeat first | (with_reducible first | refine Wp.seq ?_ | refine Wp.reg ?_ | refine Wp.block ?_ | refine Wp.skip ?_ | refine Wp.ret ?_ | refine Wp.exit ?_ | refine Wp.label ?_ | refine Wp.condG ?_) | simp (disch := omega) only [↓RP, RQ, TS, TR, ↓reduceIte, Nat.reduceEqDiff, Nat.reduceLT, Nat.reduceLeDiff, Int.reduceLT, Int.reduceLE, Int.reduceEq, Int.reduceAdd, Int.reduceSub, Int.reduceNeg, Int.reduceToNat, Nat.reduceAdd, Nat.reduceMul, Nat.reduceSub, reduceCtorEq, RC, Int.cast_ofNat_Int, hn, g0, g1, g3, g9, g10, g11, g12, g13, wrap_fit]
                exact ⟨n - 1, by omega, k + 1, x, by omega, rfl, rfl, .inl ⟨hx1, by omega⟩⟩
          · have hy := hno (fun hh => h3 (by rw [((mt_iff ..).1 hh).1]))
            repeat first | (with_reducible first | refine Wp.seq ?_ | refine Wp.reg ?_ | refine Wp.block ?_ | refine Wp.skip ?_ | refine Wp.ret ?_ | refine Wp.exit ?_ | refine Wp.label ?_ | refine Wp.condG ?_) | simp (disch := omega) only [↓RP, RQ, TS, TR, ↓reduceIte, Nat.reduceEqDiff, Nat.reduceLT, Nat.reduceLeDiff, Int.reduceLT, Int.reduceLE, Int.reduceEq, Int.reduceAdd, Int.reduceSub, Int.reduceNeg, Int.reduceToNat, Nat.reduceAdd, Nat.reduceMul, Nat.reduceSub, reduceCtorEq, RC, Int.cast_ofNat_Int, hn, g0, g1, g3, g9, g10, g11, g12, g13, h3, wrap_fit]
            exact ⟨n - 1, by omega, k + 1, x, by omega, rfl, rfl, .inl ⟨hx1, by omega⟩⟩
        · repeat first | (with_reducible first | refine Wp.seq ?_ | refine Wp.reg ?_ | refine Wp.block ?_ | refine Wp.skip ?_ | refine Wp.ret ?_ | refine Wp.exit ?_ | refine Wp.label ?_ | refine Wp.condG ?_) | simp (disch := omega) only [↓RP, RQ, TS, TR, ↓reduceIte, Nat.reduceEqDiff, Nat.reduceLT, Nat.reduceLeDiff, Int.reduceLT, Int.reduceLE, Int.reduceEq, Int.reduceAdd, Int.reduceSub, Int.reduceNeg, Int.reduceToNat, Nat.reduceAdd, Nat.reduceMul, Nat.reduceSub, reduceCtorEq, RC, Int.cast_ofNat_Int, hn, g0, g1, g3, g9, g10, g11, g12, g13]
          rcases hx with hx | hx
          · omega
          · rw [hx]
      · repeat first | (with_reducible first | refine Wp.seq ?_ | refine Wp.reg ?_ | refine Wp.block ?_ | refine Wp.skip ?_ | refine Wp.ret ?_ | refine Wp.exit ?_ | refine Wp.label ?_ | refine Wp.condG ?_) | simp (disch := omega) only [↓RP, RQ, TS, TR, ↓reduceIte, Nat.reduceEqDiff, Nat.reduceLT, Nat.reduceLeDiff, Int.reduceLT, Int.reduceLE, Int.reduceEq, Int.reduceAdd, Int.reduceSub, Int.reduceNeg, Int.reduceToNat, Nat.reduceAdd, Nat.reduceMul, Nat.reduceSub, reduceCtorEq, RC, Int.cast_ofNat_Int, hn, g0, g1, g3, g9, g10, g11, g12, g13, h1]
        rcases hx with hx | hx
        · omega
        · rw [hx]
    · clear hn g0 g1 g3 g9 g10 g11
      rintro e l H2 ⟨rfl, rfl, hn, g0, g1, g3, g9, g10, g11, g12⟩
      have hmt := (mt_iff ..).1 k3
      have hk2 := (hval _ (getD_mem (0, 0) k2)).2
      repeat first | (with_reducible first | refine Wp.seq ?_ | refine Wp.reg ?_ | refine Wp.block ?_ | refine Wp.skip ?_ | refine Wp.ret ?_ | refine Wp.exit ?_ | refine Wp.label ?_ | refine Wp.condG ?_) | simp (disch := omega) only [↓RP, RQ, TS, TR, ↓reduceIte, Nat.reduceEqDiff, Nat.reduceLT, Nat.reduceLeDiff, Int.reduceLT, Int.reduceLE, Int.reduceEq, Int.reduceAdd, Int.reduceSub, Int.reduceNeg, Int.reduceToNat, Nat.reduceAdd, Nat.reduceMul, Nat.reduceSub, reduceCtorEq, RC, Int.cast_ofNat_Int, hn, g0, g1, g3, g9, g10, g11, g12]
      refine hS.eSlice [I (pk es 0 d m' a)] tP29 tF29 rfl rfl (by simp [Value.cells]) rfl rfl (by decide) (by decide) fun x H5 hS => ?_
      repeat first | (with_reducible first | refine Wp.seq ?_ | refine Wp.reg ?_ | refine Wp.block ?_ | refine Wp.skip ?_ | refine Wp.ret ?_ | refine Wp.exit ?_ | refine Wp.label ?_ | refine Wp.condG ?_) | simp (disch := omega) only [↓RP, RQ, TS, TR, ↓reduceIte, Nat.reduceEqDiff, Nat.reduceLT, Nat.reduceLeDiff, Int.reduceLT, Int.reduceLE, Int.reduceEq, Int.reduceAdd, Int.reduceSub, Int.reduceNeg, Int.reduceToNat, Nat.reduceAdd, Nat.reduceMul, Nat.reduceSub, reduceCtorEq, RC, Int.cast_ofNat_Int, hn, g0, g1, g3, g9, g10, g11, g12]
      refine hS.eAppend 0 rfl (hS.rd 1 rfl) tP29 (by simp only [nts, List.length_map, List.length_cons, List.length_nil]; omega) fun o' H6 hS => ?_
      simp only [List.nil_append, List.cons_append, List.append_nil, List.set_cons_zero, List.set_cons_succ, setMany_cons, setMany_nil, Nat.zero_add, Nat.mul_one, Nat.add_zero] at hS
      have hE1 : Sl2 H6 ev _ _ es := hS.base hE
      repeat first | (with_reducible first | refine Wp.seq ?_ | refine Wp.reg ?_ | refine Wp.block ?_ | refine Wp.skip ?_ | refine Wp.ret ?_ | refine Wp.exit ?_ | refine Wp.label ?_ | refine Wp.condG ?_) | simp (disch := omega) only [↓RP, RQ, TS, TR, ↓reduceIte, Nat.reduceEqDiff, Nat.reduceLT, Nat.reduceLeDiff, Int.reduceLT, Int.reduceLE, Int.reduceEq, Int.reduceAdd, Int.reduceSub, Int.reduceNeg, Int.reduceToNat, Nat.reduceAdd, Nat.reduceMul, Nat.reduceSub, reduceCtorEq, RC, Int.cast_ofNat_Int, hn, g0, g1, g3, g9, g10, g11, g12, hE1.idx, hE1.fld, hE1.ld1 (0, 0), wrap_fit]
      refine ⟨m', by omega, _, o', p ++ [pk es 0 d m' a], rfl, rfl, ?_, hk2, hmt.2, ?_, ?_, hS.sub ?_⟩
      · exact congrArg (Value.int .i64) (by omega)
      · rw [← hp, List.append_assoc]
        rfl
      · rw [List.length_append]
        simp only [List.length_cons, List.length_nil]
        omega
      · simp [nts]
  · repeat first | (with_reducible first | refine Wp.seq ?_ | refine Wp.reg ?_ | refine Wp.block ?_ | refine Wp.skip ?_ | refine Wp.ret ?_ | refine Wp.exit ?_ | refine Wp.label ?_ | refine Wp.condG ?_) | simp (disch := omega) only [↓RP, RQ, TS, TR, ↓reduceIte, Nat.reduceEqDiff, Nat.reduceLT, Nat.reduceLeDiff, Int.reduceLT, Int.reduceLE, Int.reduceEq, Int.reduceAdd, Int.reduceSub, Int.reduceNeg, Int.reduceToNat, Nat.reduceAdd, Nat.reduceMul, Nat.reduceSub, reduceCtorEq, RC, Int.cast_ofNat_Int, hn, g0, g1, g3, g9, g10, g11]
    have hm : m = 0 := by omega
    subst hm
    rw [← hp]
    simp only [pF, List.append_nil]
    exact hS
end Go.Ds
/-
  Contracts: Cycle, the reference's Less and Cycle.
-/
namespace Go.Ds
open Go.Proofs Go.Plain
variable {H : Heap}

theorem tables (N : Nat) (v : Value) (es : List (Nat × Nat)) (hv : Eg H v es) (hN : N ≤ 200) (he : es.length ≤ 1000) (hval : ∀ e ∈ es, e.1 < N ∧ e.2 < N) : HasD es N := by
  refine ⟨hval, fun first t hf ht => ?_⟩
  obtain ⟨_, r, H1, _, w, rfl, hE, _⟩ := turned_ok N v es hv he
  obtain ⟨_, r2, H2, _, d, hd, _⟩ := distances_ok N w (tE es) hE hN (by rw [tE_length]; exact he) (tE_val hval) t first ht (by rw [tE_length]; exact hf)
  rw [tE_drop] at hd
  exact ⟨d, hd⟩

theorem less_ok (v1 v2 : Value) (xs ys : List Nat) (h1 : Sl1 H v1 (fun n : Nat => I n) xs) (h2 : Sl1 H v2 (fun n : Nat => I n) ys) (hx : 0 < xs.length) (hy : 0 < ys.length) (hne : ys.getD 0 0 < xs.getD 0 0) : Fn Try.prog 39 [v1, v2] H fun r H' => r = .bool false ∧ H' = H := by
  refine Fn.of_wp (fn := Try.f39) rfl rfl (by kernel_rfl) fun l hl => ?_
  have hn : l.length = 41 := by rw [hl]; rfl
  have g0 : get l 0 = v1 := by rw [hl]; rfl
  have g1 : get l 1 = v2 := by rw [hl]; rfl
  clear hl
  repeat first | (with_reducible first | refine Wp.seq ?_ | refine Wp.reg ?_ | refine Wp.block ?_ | refine Wp.skip ?_ | refine Wp.ret ?_ | refine Wp.exit ?_ | refine Wp.label ?_ | refine Wp.condG ?_) | simp (disch := omega) only [↓RP, RQ, TS, TR, ↓reduceIte, Nat.reduceEqDiff, Nat.reduceLT, Nat.reduceLeDiff, Int.reduceLT, Int.reduceLE, Int.reduceEq, Int.reduceAdd, Int.reduceSub, Int.reduceNeg, Int.reduceToNat, Nat.reduceAdd, Nat.reduceMul, Nat.reduceSub, reduceCtorEq, RC, Int.cast_ofNat_Int, hn, g0, g1]
  refine Wp.loopN (fun n l H' => H' = H ∧ l.length = 41 ∧ get l 0 = v1 ∧ get l 1 = v2 ∧ get l 5 = I 0) 0 ?_ ?_
  · repeat first | (with_reducible first | refine Wp.seq ?_ | refine Wp.reg ?_ | refine Wp.block ?_ | refine Wp.skip ?_ | refine Wp.ret ?_ | refine Wp.exit ?_ | refine Wp.label ?_ | refine Wp.condG ?_) | simp (disch := omega) only [↓RP, RQ, TS, TR, ↓reduceIte, Nat.reduceEqDiff, Nat.reduceLT, Nat.reduceLeDiff, Int.reduceLT, Int.reduceLE, Int.reduceEq, Int.reduceAdd, Int.reduceSub, Int.reduceNeg, Int.reduceToNat, Nat.reduceAdd, Nat.reduceMul, Nat.reduceSub, reduceCtorEq, RC, Int.cast_ofNat_Int, hn, g0, g1]
  clear hn g0 g1
  rintro n l H' ⟨rfl, hn, g0, g1, g5⟩
  have e1 : (0 : Int) < (xs.length : Int) := by omega
  have e2 : (0 : Int) < (ys.length : Int) := by omega
  have e3 : ¬ (xs.getD 0 0 : Int) = (ys.getD 0 0 : Int) := by omega
  have e4 : decide ((xs.getD 0 0 : Int) < (ys.getD 0 0 : Int)) = false := decide_eq_false (by omega)
  repeat first | (with_reducible first | refine Wp.seq ?_ | refine Wp.reg ?_ | refine Wp.block ?_ | refine Wp.skip ?_ | refine Wp.ret ?_ | refine Wp.exit ?_ | refine Wp.label ?_ | refine Wp.condG ?_) | with_reducible refine Wp.drw hmix (by kernel_rfl) ?_ | simp (disch := omega) only [↓RP, RQ, TS, TR, ↓reduceIte, Nat.reduceEqDiff, Nat.reduceLT, Nat.reduceLeDiff, Int.reduceLT, Int.reduceLE, Int.reduceEq, Int.reduceAdd, Int.reduceSub, Int.reduceNeg, Int.reduceToNat, Nat.reduceAdd, Nat.reduceMul, Nat.reduceSub, reduceCtorEq, RC, Int.cast_ofNat_Int, hn, g0, g1, g5, h1.len, h2.len, e1, e2, e3, e4, h1.idx, h2.idx, h1.ld 0, h2.ld 0]

theorem cycle_ok (N : Nat) (v : Value) (es : List (Nat × Nat)) (hv : Eg H v es) (hN : N ≤ 200) (he : es.length ≤ 1000) (hval : ∀ e ∈ es, e.1 < N ∧ e.2 < N) :
    Fn Try.prog 19 [.agg #[I N, v]] H fun r H' => ∃ (c : List Nat) (w : Value), Mst (goOk es N) (fun i => dT es N i i) (fun i => cyc es N i i) es.length c ∧ c.length ≤ N + 1 ∧ r = .tuple #[w, .bool (decide (0 < c.length)), I 0] ∧ St Try.prog H H' [⟨w, 1, nts c⟩] := by
  have T := tables N v es hv hN he hval
  have hcl : ∀ i, i < es.length → goOk es N i → ((cyc es N i i).length : Int) = dT es N i i + 1 := fun i hi h => (cyc_ch T (by omega) hi h).2.2
  refine Fn.of_wp (fn := Try.f19) rfl rfl (by kernel_rfl) fun l hl => ?_
  have hn : l.length = 53 := by rw [hl]; rfl
  have g0 : get l 0 = .agg #[I N, v] := by rw [hl]; rfl
  clear hl
  repeat first | (with_reducible first | refine Wp.seq ?_ | refine Wp.reg ?_ | refine Wp.block ?_ | refine Wp.skip ?_ | refine Wp.ret ?_ | refine Wp.exit ?_ | refine Wp.label ?_ | refine Wp.condG ?_) | simp (disch := omega) only [↓RP, RQ, TS, TR, ↓reduceIte, Nat.reduceEqDiff, Nat.reduceLT, Nat.reduceLeDiff, Int.reduceLT, Int.reduceLE, Int.reduceEq, Int.reduceAdd, Int.reduceSub, Int.reduceNeg, Int.reduceToNat, Nat.reduceAdd, Nat.reduceMul, Nat.reduceSub, reduceCtorEq, RC, Int.cast_ofNat_Int, hn, g0]
  refine (St.refl _ H).eNew 2 [I N, v] rfl rfl (by simp [hv.one]; rfl) tS27 fun A H1 hS => ?_
  repeat first | (with_reducible first | refine Wp.seq ?_ | refine Wp.reg ?_ | refine Wp.block ?_ | refine Wp.skip ?_ | refine Wp.ret ?_ | refine Wp.exit ?_ | refine Wp.label ?_ | refine Wp.condG ?_) | simp (disch := omega) only [↓RP, RQ, TS, TR, ↓reduceIte, Nat.reduceEqDiff, Nat.reduceLT, Nat.reduceLeDiff, Int.reduceLT, Int.reduceLE, Int.reduceEq, Int.reduceAdd, Int.reduceSub, Int.reduceNeg, Int.reduceToNat, Nat.reduceAdd, Nat.reduceMul, Nat.reduceSub, reduceCtorEq, RC, Int.cast_ofNat_Int, hn, g0, hS.ldA 0 rfl]
  refine callFW_of (check_ok N v es (hS.base hv) hN he hval) ?_
  rintro r H2 ⟨rfl, hS2⟩
  have hS := (hS.trans hS2).nil 0
  simp only [List.nil_append, List.cons_append, List.append_nil, List.set_cons_zero, List.set_cons_succ, setMany_cons, setMany_nil, Nat.zero_add, Nat.mul_one, Nat.add_zero] at hS
  have hv1 : Sl2 H2 v _ _ es := hS.base hv
  repeat first | (with_reducible first | refine Wp.seq ?_ | refine Wp.reg ?_ | refine Wp.block ?_ | refine Wp.skip ?_ | refine Wp.ret ?_ | refine Wp.exit ?_ | refine Wp.label ?_ | refine Wp.condG ?_) | simp (disch := omega) only [↓RP, RQ, TS, TR, ↓reduceIte, Nat.reduceEqDiff, Nat.reduceLT, Nat.reduceLeDiff, Int.reduceLT, Int.reduceLE, Int.reduceEq, Int.reduceAdd, Int.reduceSub, Int.reduceNeg, Int.reduceToNat, Nat.reduceAdd, Nat.reduceMul, Nat.reduceSub, reduceCtorEq, RC, Int.cast_ofNat_Int, hn, g0, hS.ld 0 rfl, hv1.len]
  refine Wp.loopN (fun n l H' => l.length = 53 ∧ get l 1 = ptr A 0 2 ∧ get l 16 = v ∧ get l 17 = I es.length ∧ ∃ (i : Nat) (c : List Nat) (cv : Value), n + i = es.length ∧ get l 18 = I i ∧ get l 2 = cv ∧ get l 3 = .bool (decide (0 < c.length)) ∧
    Mst (goOk es N) (fun i => dT es N i i) (fun i => cyc es N i i) i c ∧ c.length ≤ N + 1 ∧ St Try.prog H H' [⟨ptr A 0 2, 0, [I N, v]⟩, ⟨cv, 1, nts c⟩]) es.length ?_ ?_
  · repeat first | (with_reducible first | refine Wp.seq ?_ | refine Wp.reg ?_ | refine Wp.block ?_ | refine Wp.skip ?_ | refine Wp.ret ?_ | refine Wp.exit ?_ | refine Wp.label ?_ | refine Wp.condG ?_) | simp (disch := omega) only [↓RP, RQ, TS, TR, ↓reduceIte, Nat.reduceEqDiff, Nat.reduceLT, Nat.reduceLeDiff, Int.reduceLT, Int.reduceLE, Int.reduceEq, Int.reduceAdd, Int.reduceSub, Int.reduceNeg, Int.reduceToNat, Nat.reduceAdd, Nat.reduceMul, Nat.reduceSub, reduceCtorEq, RC, Int.cast_ofNat_Int, hn, g0]
    exact ⟨0, [], _, rfl, rfl, rfl, rfl, .first, by simp, hS⟩
  clear hS hS2 hn g0 hv1
  rintro n l H' ⟨hn, g1, g16, g17, i, c, cv, hi, g18, g2, g3, hM, hcN, hS⟩
  have hv1 : Sl2 H' v _ _ es := hS.base hv
  repeat first | (with_reducible first | refine Wp.seq ?_ | refine Wp.reg ?_ | refine Wp.block ?_ | refine Wp.skip ?_ | refine Wp.ret ?_ | refine Wp.exit ?_ | refine Wp.label ?_ | refine Wp.condG ?_) | simp (disch := omega) only [↓RP, RQ, TS, TR, ↓reduceIte, Nat.reduceEqDiff, Nat.reduceLT, Nat.reduceLeDiff, Int.reduceLT, Int.reduceLE, Int.reduceEq, Int.reduceAdd, Int.reduceSub, Int.reduceNeg, Int.reduceToNat, Nat.reduceAdd, Nat.reduceMul, Nat.reduceSub, reduceCtorEq, RC, Int.cast_ofNat_Int, hn, g1, g16, g17, g18]
  refine condW_split (fun h => ?_) (fun h => ?_)
  · have hil : i < es.length := by omega
    have hm := hval _ (getD_mem (0, 0) hil)
    repeat first | (with_reducible first | refine Wp.seq ?_ | refine Wp.reg ?_ | refine Wp.block ?_ | refine Wp.skip ?_ | refine Wp.ret ?_ | refine Wp.exit ?_ | refine Wp.label ?_ | refine Wp.condG ?_) | simp (disch := omega) only [↓RP, RQ, TS, TR, ↓reduceIte, Nat.reduceEqDiff, Nat.reduceLT, Nat.reduceLeDiff, Int.reduceLT, Int.reduceLE, Int.reduceEq, Int.reduceAdd, Int.reduceSub, Int.reduceNeg, Int.reduceToNat, Nat.reduceAdd, Nat.reduceMul, Nat.reduceSub, reduceCtorEq, RC, Int.cast_ofNat_Int, hn, g1, g2, g3, g16, g17, g18, hv1.idx, hv1.ldA (0, 0)]
    refine hS.eNew 2 [I 0, I 0] rfl rfl rfl tS48 fun C H5 hS => ?_
    repeat first | (with_reducible first | refine Wp.seq ?_ | refine Wp.reg ?_ | refine Wp.block ?_ | refine Wp.skip ?_ | refine Wp.ret ?_ | refine Wp.exit ?_ | refine Wp.label ?_ | refine Wp.condG ?_) | simp (disch := omega) only [↓RP, RQ, TS, TR, ↓reduceIte, Nat.reduceEqDiff, Nat.reduceLT, Nat.reduceLeDiff, Int.reduceLT, Int.reduceLE, Int.reduceEq, Int.reduceAdd, Int.reduceSub, Int.reduceNeg, Int.reduceToNat, Nat.reduceAdd, Nat.reduceMul, Nat.reduceSub, reduceCtorEq, RC, Int.cast_ofNat_Int, hn, g1, g2, g3, g16, g17, g18]
    refine hS.eStore 2 rfl [_, _] rfl rfl tS48 (by simp) fun H6 hS => ?_
    simp only [List.nil_append, List.cons_append, List.append_nil, List.set_cons_zero, List.set_cons_succ, setMany_cons, setMany_nil, Nat.zero_add, Nat.mul_one, Nat.add_zero] at hS
    repeat first | (with_reducible first | refine Wp.seq ?_ | refine Wp.reg ?_ | refine Wp.block ?_ | refine Wp.skip ?_ | refine Wp.ret ?_ | refine Wp.exit ?_ | refine Wp.label ?_ | refine Wp.condG ?_) | simp (disch := omega) only [↓RP, RQ, TS, TR, ↓reduceIte, Nat.reduceEqDiff, Nat.reduceLT, Nat.reduceLeDiff, Int.reduceLT, Int.reduceLE, Int.reduceEq, Int.reduceAdd, Int.reduceSub, Int.reduceNeg, Int.reduceToNat, Nat.reduceAdd, Nat.reduceMul, Nat.reduceSub, reduceCtorEq, RC, Int.cast_ofNat_Int, hn, g1, g2, g3, g16, g17, g18, hS.ldA 0 rfl, hS.ld 2 rfl]
    refine callFW_of (walk_ok N v es (hS.base hv) hN he hval (es.getD i (0, 0)).2 (es.getD i (0, 0)).1 i hm.2 hm.1 (by omega)) ?_
    rintro r H7 ⟨d, wl, hd, hdN, rfl, hS7⟩
    have hS := hS.trans hS7
    simp only [List.nil_append, List.cons_append, List.append_nil, List.set_cons_zero, List.set_cons_succ, setMany_cons, setMany_nil, Nat.zero_add, Nat.mul_one, Nat.add_zero] at hS
    have hdI : dI es N i i = d := dist_eq hd
    have hdT : dT es N i i = d.getD (es.getD i (0, 0)).2 0 := by unfold dT; rw [hdI]
    have hdn := hdN _ hm.2
    have hcy : cyc es N i i = i :: pF es i d (d.getD (es.getD i (0, 0)).2 0).toNat (es.getD i (0, 0)).2 := by unfold cyc; rw [hdI, hdT]
    have hwl := hS.rd 3 rfl
    repeat first | (with_reducible first | refine Wp.seq ?_ | refine Wp.reg ?_ | refine Wp.block ?_ | refine Wp.skip ?_ | refine Wp.ret ?_ | refine Wp.exit ?_ | refine Wp.label ?_ | refine Wp.condG ?_) | simp (disch := omega) only [↓RP, RQ, TS, TR, ↓reduceIte, Nat.reduceEqDiff, Nat.reduceLT, Nat.reduceLeDiff, Int.reduceLT, Int.reduceLE, Int.reduceEq, Int.reduceAdd, Int.reduceSub, Int.reduceNeg, Int.reduceToNat, Nat.reduceAdd, Nat.reduceMul, Nat.reduceSub, reduceCtorEq, RC, Int.cast_ofNat_Int, hn, g1, g2, g3, g16, g17, g18]
    refine letG_split (fun h3 => ?_) (fun h3 => ?_)
    · rw [if_pos h3] at hS hwl
      have hok : goOk es N i := by unfold goOk; rw [hdT]; exact h3
      have hwl1 : Sl1 H7 wl (fun n : Nat => I n) (pF es i d (d.getD (es.getD i (0, 0)).2 0).toNat (es.getD i (0, 0)).2) := hwl
      have hcv1 : Sl1 H7 cv (fun n : Nat => I n) c := hS.rd 1 rfl
      have hpl := pF_length es i d (d.getD (es.getD i (0, 0)).2 0).toNat (es.getD i (0, 0)).2
      generalize hpp : pF es i d (d.getD (es.getD i (0, 0)).2 0).toNat (es.getD i (0, 0)).2 = p at hpl hwl1 hS hcy
      by_cases hc0 : 0 < c.length
      · have e1 : decide (0 < c.length) = true := decide_eq_true hc0
        repeat first | (with_reducible first | refine Wp.seq ?_ | refine Wp.reg ?_ | refine Wp.block ?_ | refine Wp.skip ?_ | refine Wp.ret ?_ | refine Wp.exit ?_ | refine Wp.label ?_ | refine Wp.condG ?_) | simp (disch := omega) only [↓RP, RQ, TS, TR, ↓reduceIte, Nat.reduceEqDiff, Nat.reduceLT, Nat.reduceLeDiff, Int.reduceLT, Int.reduceLE, Int.reduceEq, Int.reduceAdd, Int.reduceSub, Int.reduceNeg, Int.reduceToNat, Nat.reduceAdd, Nat.reduceMul, Nat.reduceSub, reduceCtorEq, RC, Int.cast_ofNat_Int, hn, g1, g2, g3, g16, g17, g18, h3, e1, hwl1.len, hcv1.len, wrap_fit]
        refine condW_split (fun h4 => ?_) (fun h4 => ?_)
        · repeat first | (with_reducible first | refine Wp.seq ?_ | refine Wp.reg ?_ | refine Wp.block ?_ | refine Wp.skip ?_ | refine Wp.ret ?_ | refine Wp.exit ?_ | refine Wp.label ?_ | refine Wp.condG ?_) | simp (disch := omega) only [↓RP, RQ, TS, TR, ↓reduceIte, Nat.reduceEqDiff, Nat.reduceLT, Nat.reduceLeDiff, Int.reduceLT, Int.reduceLE, Int.reduceEq, Int.reduceAdd, Int.reduceSub, Int.reduceNeg, Int.reduceToNat, Nat.reduceAdd, Nat.reduceMul, Nat.reduceSub, reduceCtorEq, RC, Int.cast_ofNat_Int, hn, g1, g2, g3, g16, g17, g18]
          refine hS.eSlice [I i] tP29 tF29 rfl rfl (by simp [Value.cells]) rfl rfl (by decide) (by decide) fun x H8 hS => ?_
          repeat first | (with_reducible first | refine Wp.seq ?_ | refine Wp.reg ?_ | refine Wp.block ?_ | refine Wp.skip ?_ | refine Wp.ret ?_ | refine Wp.exit ?_ | refine Wp.label ?_ | refine Wp.condG ?_) | simp (disch := omega) only [↓RP, RQ, TS, TR, ↓reduceIte, Nat.reduceEqDiff, Nat.reduceLT, Nat.reduceLeDiff, Int.reduceLT, Int.reduceLE, Int.reduceEq, Int.reduceAdd, Int.reduceSub, Int.reduceNeg, Int.reduceToNat, Nat.reduceAdd, Nat.reduceMul, Nat.reduceSub, reduceCtorEq, RC, Int.cast_ofNat_Int, hn, g1, g2, g3, g16, g17, g18]
          refine hS.eAppend 4 rfl (hS.rd 3 rfl) tP29 (by simp only [nts, List.length_map, List.length_cons, List.length_nil]; omega) fun cv' H9 hS => ?_
          simp only [List.nil_append, List.cons_append, List.append_nil, List.set_cons_zero, List.set_cons_succ, setMany_cons, setMany_nil, Nat.zero_add, Nat.mul_one, Nat.add_zero] at hS
          repeat first | (with_reducible first | refine Wp.seq ?_ | refine Wp.reg ?_ | refine Wp.block ?_ | refine Wp.skip ?_ | refine Wp.ret ?_ | refine Wp.exit ?_ | refine Wp.label ?_ | refine Wp.condG ?_) | simp (disch := omega) only [↓RP, RQ, TS, TR, ↓reduceIte, Nat.reduceEqDiff, Nat.reduceLT, Nat.reduceLeDiff, Int.reduceLT, Int.reduceLE, Int.reduceEq, Int.reduceAdd, Int.reduceSub, Int.reduceNeg, Int.reduceToNat, Nat.reduceAdd, Nat.reduceMul, Nat.reduceSub, reduceCtorEq, RC, Int.cast_ofNat_Int, hn, g1, g2, g3, g16, g17, g18, wrap_fit]
          refine ⟨n - 1, by omega, i + 1, i :: p, cv', by omega, rfl, rfl, by simp, ?_, by rw [List.length_cons]; omega, hS.sub ?_⟩
          · rw [← hcy]
            exact hM.new (fun _ => by simp [cyc]) (fun j hj => hcl j (by omega)) hok (.inr (by rw [hdT]; omega))
          · exact .cons_cons _ (.cons _ (.cons _ (.cons _ (.refl _))))
        · repeat first | (with_reducible first | refine Wp.seq ?_ | refine Wp.reg ?_ | refine Wp.block ?_ | refine Wp.skip ?_ | refine Wp.ret ?_ | refine Wp.exit ?_ | refine Wp.label ?_ | refine Wp.condG ?_) | simp (disch := omega) only [↓RP, RQ, TS, TR, ↓reduceIte, Nat.reduceEqDiff, Nat.reduceLT, Nat.reduceLeDiff, Int.reduceLT, Int.reduceLE, Int.reduceEq, Int.reduceAdd, Int.reduceSub, Int.reduceNeg, Int.reduceToNat, Nat.reduceAdd, Nat.reduceMul, Nat.reduceSub, reduceCtorEq, RC, Int.cast_ofNat_Int, hn, g1, g2, g3, g16, g17, g18, wrap_fit]
          refine ⟨n - 1, by omega, i + 1, c, cv, by omega, rfl, rfl, by rw [e1], hM.keep (fun j hj => hcl j (by omega)) (fun e => by rw [e] at hc0; simp at hc0) (by rw [hdT]; omega), hcN, hS.sub ?_⟩
          exact .cons_cons _ (.cons_cons _ (.cons _ (.cons _ (.refl _))))
      · have e1 : decide (0 < c.length) = false := decide_eq_false hc0
        repeat first | (with_reducible first | refine Wp.seq ?_ | refine Wp.reg ?_ | refine Wp.block ?_ | refine Wp.skip ?_ | refine Wp.ret ?_ | refine Wp.exit ?_ | refine Wp.label ?_ | refine Wp.condG ?_) | simp (disch := omega) only [↓RP, RQ, TS, TR, ↓reduceIte, Nat.reduceEqDiff, Nat.reduceLT, Nat.reduceLeDiff, Int.reduceLT, Int.reduceLE, Int.reduceEq, Int.reduceAdd, Int.reduceSub, Int.reduceNeg, Int.reduceToNat, Nat.reduceAdd, Nat.reduceMul, Nat.reduceSub, reduceCtorEq, RC, Int.cast_ofNat_Int, hn, g1, g2, g3, g16, g17, g18, h3, e1, hwl1.len, hcv1.len, wrap_fit]
        refine hS.eSlice [I i] tP29 tF29 rfl rfl (by simp [Value.cells]) rfl rfl (by decide) (by decide) fun x H8 hS => ?_
        repeat first | (with_reducible first | refine Wp.seq ?_ | refine Wp.reg ?_ | refine Wp.block ?_ | refine Wp.skip ?_ | refine Wp.ret ?_ | refine Wp.exit ?_ | refine Wp.label ?_ | refine Wp.condG ?_) | simp (disch := omega) only [↓RP, RQ, TS, TR, ↓reduceIte, Nat.reduceEqDiff, Nat.reduceLT, Nat.reduceLeDiff, Int.reduceLT, Int.reduceLE, Int.reduceEq, Int.reduceAdd, Int.reduceSub, Int.reduceNeg, Int.reduceToNat, Nat.reduceAdd, Nat.reduceMul, Nat.reduceSub, reduceCtorEq, RC, Int.cast_ofNat_Int, hn, g1, g2, g3, g16, g17, g18]
        refine hS.eAppend 4 rfl (hS.rd 3 rfl) tP29 (by simp only [nts, List.length_map, List.length_cons, List.length_nil]; omega) fun cv' H9 hS => ?_
        simp only [List.nil_append, List.cons_append, List.append_nil, List.set_cons_zero, List.set_cons_succ, setMany_cons, setMany_nil, Nat.zero_add, Nat.mul_one, Nat.add_zero] at hS
        repeat first | (with_reducible first | refine Wp.seq ?_ | refine Wp.reg ?_ | refine Wp.block ?_ | refine Wp.skip ?_ | refine Wp.ret ?_ | refine Wp.exit ?_ | refine Wp.label ?_ | refine Wp.condG ?_) | simp (disch := omega) only [↓RP, RQ, TS, TR, ↓reduceIte, Nat.reduceEqDiff, Nat.reduceLT, Nat.reduceLeDiff, Int.reduceLT, Int.reduceLE, Int.reduceEq, Int.reduceAdd, Int.reduceSub, Int.reduceNeg, Int.reduceToNat, Nat.reduceAdd, Nat.reduceMul, Nat.reduceSub, reduceCtorEq, RC, Int.cast_ofNat_Int, hn, g1, g2, g3, g16, g17, g18, wrap_fit]
        refine ⟨n - 1, by omega, i + 1, i :: p, cv', by omega, rfl, rfl, by simp, ?_, by rw [List.length_cons]; omega, hS.sub ?_⟩
        · rw [← hcy]
          exact hM.new (fun _ => by simp [cyc]) (fun j hj => hcl j (by omega)) hok (.inl (List.eq_nil_of_length_eq_zero (by omega)))
        · exact .cons_cons _ (.cons _ (.cons _ (.cons _ (.refl _))))
    · have hno : ¬ goOk es N i := by unfold goOk; rw [hdT]; exact h3
      repeat first | (with_reducible first | refine Wp.seq ?_ | refine Wp.reg ?_ | refine Wp.block ?_ | refine Wp.skip ?_ | refine Wp.ret ?_ | refine Wp.exit ?_ | refine Wp.label ?_ | refine Wp.condG ?_) | simp (disch := omega) only [↓RP, RQ, TS, TR, ↓reduceIte, Nat.reduceEqDiff, Nat.reduceLT, Nat.reduceLeDiff, Int.reduceLT, Int.reduceLE, Int.reduceEq, Int.reduceAdd, Int.reduceSub, Int.reduceNeg, Int.reduceToNat, Nat.reduceAdd, Nat.reduceMul, Nat.reduceSub, reduceCtorEq, RC, Int.cast_ofNat_Int, hn, g1, g2, g3, g16, g17, g18, h3, wrap_fit]
      refine ⟨n - 1, by omega, i + 1, c, cv, by omega, rfl, rfl, rfl, hM.none hno, hcN, hS.sub ?_⟩
      exact .cons_cons _ (.cons_cons _ (.cons _ (.cons _ (.refl _))))
  · have hw := hS.rd 1 rfl
    repeat first | (with_reducible first | refine Wp.seq ?_ | refine Wp.reg ?_ | refine Wp.block ?_ | refine Wp.skip ?_ | refine Wp.ret ?_ | refine Wp.exit ?_ | refine Wp.label ?_ | refine Wp.condG ?_) | simp (disch := omega) only [↓RP, RQ, TS, TR, ↓reduceIte, Nat.reduceEqDiff, Nat.reduceLT, Nat.reduceLeDiff, Int.reduceLT, Int.reduceLE, Int.reduceEq, Int.reduceAdd, Int.reduceSub, Int.reduceNeg, Int.reduceToNat, Nat.reduceAdd, Nat.reduceMul, Nat.reduceSub, reduceCtorEq, RC, Int.cast_ofNat_Int, hn, g1, g2, g3, g16, g17, g18, hw.noTuple]
    have e : i = es.length := by omega
    subst e
    exact ⟨c, cv, hM, hcN, rfl, hS.sub (by simp)⟩
end Go.Ds
/-
  Contracts: Index, Order.
-/
namespace Go.Ds
open Go.Proofs Go.Plain
variable {H : Heap}

theorem index_ok (v : Value) (x : Int) (xs : List Int) (hv : Sl1 H v (.int .i64) xs) (hx : xs.length < 1000000) :
    Fn Try.prog 40 [v, I x] H fun r H' => H' = H ∧ ((∃ i : Nat, i < xs.length ∧ r = I i ∧ xs.getD i 0 = x ∧ ∀ j, j < i → xs.getD j 0 ≠ x) ∨ (r = I (-1) ∧ ∀ j, j < xs.length → xs.getD j 0 ≠ x)) := by
  refine Fn.of_wp (fn := Try.f40) rfl rfl (by kernel_rfl) fun l hl => ?_
  have hn : l.length = 19 := by rw [hl]; rfl
  have g0 : get l 0 = v := by rw [hl]; rfl
  have g1 : get l 1 = I x := by rw [hl]; rfl
  clear hl
  repeat first | (with_reducible first | refine Wp.seq ?_ | refine Wp.reg ?_ | refine Wp.block ?_ | refine Wp.skip ?_ | refine Wp.ret ?_ | refine Wp.exit ?_ | refine Wp.label ?_ | refine Wp.condG ?_) | simp (disch := omega) only [↓RP, RQ, TS, TR, ↓reduceIte, Nat.reduceEqDiff, Nat.reduceLT, Nat.reduceLeDiff, Int.reduceLT, Int.reduceLE, Int.reduceEq, Int.reduceAdd, Int.reduceSub, Int.reduceNeg, Int.reduceToNat, Nat.reduceAdd, Nat.reduceMul, Nat.reduceSub, reduceCtorEq, RC, Int.cast_ofNat_Int, hn, g0, g1, hv.len]
  refine Wp.loopN (fun n l H' => H' = H ∧ l.length = 19 ∧ get l 0 = v ∧ get l 1 = I x ∧ get l 7 = I xs.length ∧ ∃ i : Nat, n + i = xs.length ∧ get l 8 = I i ∧ ∀ j, j < i → xs.getD j 0 ≠ x) xs.length ?_ ?_
  · repeat first | (with_reducible first | refine Wp.seq ?_ | refine Wp.reg ?_ | refine Wp.block ?_ | refine Wp.skip ?_ | refine Wp.ret ?_ | refine Wp.exit ?_ | refine Wp.label ?_ | refine Wp.condG ?_) | simp (disch := omega) only [↓RP, RQ, TS, TR, ↓reduceIte, Nat.reduceEqDiff, Nat.reduceLT, Nat.reduceLeDiff, Int.reduceLT, Int.reduceLE, Int.reduceEq, Int.reduceAdd, Int.reduceSub, Int.reduceNeg, Int.reduceToNat, Nat.reduceAdd, Nat.reduceMul, Nat.reduceSub, reduceCtorEq, RC, Int.cast_ofNat_Int, hn, g0, g1]
    exact ⟨0, rfl, rfl, fun j hj => absurd hj (Nat.not_lt_zero _)⟩
  clear hn g0 g1
  rintro n l H' ⟨rfl, hn, g0, g1, g7, i, hi, g8, hs⟩
  repeat first | (with_reducible first | refine Wp.seq ?_ | refine Wp.reg ?_ | refine Wp.block ?_ | refine Wp.skip ?_ | refine Wp.ret ?_ | refine Wp.exit ?_ | refine Wp.label ?_ | refine Wp.condG ?_) | simp (disch := omega) only [↓RP, RQ, TS, TR, ↓reduceIte, Nat.reduceEqDiff, Nat.reduceLT, Nat.reduceLeDiff, Int.reduceLT, Int.reduceLE, Int.reduceEq, Int.reduceAdd, Int.reduceSub, Int.reduceNeg, Int.reduceToNat, Nat.reduceAdd, Nat.reduceMul, Nat.reduceSub, reduceCtorEq, RC, Int.cast_ofNat_Int, hn, g0, g1, g7, g8]
  refine condW_split (fun h3 => ?_) (fun h3 => ?_)
  · repeat first | (with_reducible first | refine Wp.seq ?_ | refine Wp.reg ?_ | refine Wp.block ?_ | refine Wp.skip ?_ | refine Wp.ret ?_ | refine Wp.exit ?_ | refine Wp.label ?_ | refine Wp.condG ?_) | simp (disch := omega) only [↓RP, RQ, TS, TR, ↓reduceIte, Nat.reduceEqDiff, Nat.reduceLT, Nat.reduceLeDiff, Int.reduceLT, Int.reduceLE, Int.reduceEq, Int.reduceAdd, Int.reduceSub, Int.reduceNeg, Int.reduceToNat, Nat.reduceAdd, Nat.reduceMul, Nat.reduceSub, reduceCtorEq, RC, Int.cast_ofNat_Int, hn, g0, g1, g7, g8, hv.idx, hv.ld 0]
    refine condW_split (fun h4 => ?_) (fun h4 => ?_)
    · repeat first | (with_reducible first | refine Wp.seq ?_ | refine Wp.reg ?_ | refine Wp.block ?_ | refine Wp.skip ?_ | refine Wp.ret ?_ | refine Wp.exit ?_ | refine Wp.label ?_ | refine Wp.condG ?_) | simp (disch := omega) only [↓RP, RQ, TS, TR, ↓reduceIte, Nat.reduceEqDiff, Nat.reduceLT, Nat.reduceLeDiff, Int.reduceLT, Int.reduceLE, Int.reduceEq, Int.reduceAdd, Int.reduceSub, Int.reduceNeg, Int.reduceToNat, Nat.reduceAdd, Nat.reduceMul, Nat.reduceSub, reduceCtorEq, RC, Int.cast_ofNat_Int, hn, g0, g1, g7, g8]
      exact .inl ⟨i, by omega, rfl, h4.symm, hs⟩
    · repeat first | (with_reducible first | refine Wp.seq ?_ | refine Wp.reg ?_ | refine Wp.block ?_ | refine Wp.skip ?_ | refine Wp.ret ?_ | refine Wp.exit ?_ | refine Wp.label ?_ | refine Wp.condG ?_) | simp (disch := omega) only [↓RP, RQ, TS, TR, ↓reduceIte, Nat.reduceEqDiff, Nat.reduceLT, Nat.reduceLeDiff, Int.reduceLT, Int.reduceLE, Int.reduceEq, Int.reduceAdd, Int.reduceSub, Int.reduceNeg, Int.reduceToNat, Nat.reduceAdd, Nat.reduceMul, Nat.reduceSub, reduceCtorEq, RC, Int.cast_ofNat_Int, hn, g0, g1, g7, g8, wrap_fit]
      refine ⟨n - 1, by omega, i + 1, by omega, rfl, fun j hj => ?_⟩
      by_cases e : j = i
      · subst e; exact fun hh => h4 hh.symm
      · exact hs j (by omega)
  · repeat first | (with_reducible first | refine Wp.seq ?_ | refine Wp.reg ?_ | refine Wp.block ?_ | refine Wp.skip ?_ | refine Wp.ret ?_ | refine Wp.exit ?_ | refine Wp.label ?_ | refine Wp.condG ?_) | simp (disch := omega) only [↓RP, RQ, TS, TR, ↓reduceIte, Nat.reduceEqDiff, Nat.reduceLT, Nat.reduceLeDiff, Int.reduceLT, Int.reduceLE, Int.reduceEq, Int.reduceAdd, Int.reduceSub, Int.reduceNeg, Int.reduceToNat, Nat.reduceAdd, Nat.reduceMul, Nat.reduceSub, reduceCtorEq, RC, Int.cast_ofNat_Int, hn, g0, g1, g7, g8]
    exact .inr fun j hj => hs j (by omega)

/-- How many edges lead to a node from what has not come. -/
def cA (es : List (Nat × Nat)) (out : List Nat) (k : Nat) : Nat := es.countP fun e => decide (e.2 = k ∧ e.1 ∉ out)
/-- How many lead from a node to a node. -/
def cC (es : List (Nat × Nat)) (n k : Nat) : Nat := es.countP fun e => decide (e.1 = n ∧ e.2 = k)

theorem cA_split (n k : Nat) (out : List Nat) (hn : n ∉ out) : ∀ es : List (Nat × Nat), cA es out k = cA es (out ++ [n]) k + cC es n k
  | [] => rfl
  | e :: es => by
    have ih := cA_split n k out hn es
    unfold cA cC at ih ⊢
    have hp : (if decide (e.2 = k ∧ e.1 ∉ out) = true then 1 else 0) = (if decide (e.2 = k ∧ e.1 ∉ out ++ [n]) = true then 1 else 0) + (if decide (e.1 = n ∧ e.2 = k) = true then 1 else 0) := by
      by_cases h1 : e.2 = k
      · by_cases h2 : e.1 ∈ out
        · have h3 : e.1 ≠ n := fun hh => hn (by rw [← hh]; exact h2)
          simp [h1, h2, h3]
        · by_cases h3 : e.1 = n
          · simp [h1, h3, hn]
          · simp [h1, h2, h3]
      · simp [h1]
    simp only [List.countP_cons]
    omega

theorem cA_zero {es : List (Nat × Nat)} {out : List Nat} {k : Nat} : cA es out k = 0 ↔ ∀ e ∈ es, e.2 = k → e.1 ∈ out := by
  unfold cA
  rw [List.countP_eq_zero]
  constructor
  · intro h e he h2
    have := h e he
    simp only [decide_eq_true_eq] at this
    exact Classical.byContradiction fun hh => this ⟨h2, hh⟩
  · intro h e he
    simp only [decide_eq_true_eq]
    rintro ⟨h2, h3⟩
    exact h3 (h e he h2)

/-- The table of waits. -/
structure Wt (es : List (Nat × Nat)) (N : Nat) (out : List Nat) (d : List Int) : Prop where
  len : d.length = N
  old : ∀ k, k < N → k ∈ out → d.getD k 0 = -1
  new : ∀ k, k < N → k ∉ out → d.getD k 0 = cA es out k

theorem Wt.rdy {es : List (Nat × Nat)} {N : Nat} {out : List Nat} {d : List Int} (h : Wt es N out d) {k : Nat} (hk : k < N) : d.getD k 0 = 0 ↔ rdy es out k := by
  by_cases hm : k ∈ out
  · constructor
    · intro h0
      have := h.old k hk hm
      omega
    · intro hr; exact (hr.1 hm).elim
  · rw [h.new k hk hm]
    constructor
    · intro h0
      exact ⟨hm, cA_zero.1 (by omega)⟩
    · intro hr
      have := cA_zero.2 hr.2
      omega

/-- The table while the edges of a node are taken off. -/
structure Wj (es : List (Nat × Nat)) (N : Nat) (out : List Nat) (n j : Nat) (d : List Int) : Prop where
  len : d.length = N
  old : ∀ k, k < N → k ∈ out ++ [n] → d.getD k 0 = -1
  new : ∀ k, k < N → k ∉ out ++ [n] → d.getD k 0 = (cA es out k : Int) - cC (es.take j) n k

theorem cC_take (es : List (Nat × Nat)) (n k j : Nat) (hj : j < es.length) : cC (es.take (j + 1)) n k = cC (es.take j) n k + if (es.getD j (0, 0)).1 = n ∧ (es.getD j (0, 0)).2 = k then 1 else 0 := by
  rw [take_succ_getD es j (0, 0) hj]
  unfold cC
  rw [List.countP_append]
  simp [List.countP_cons]

theorem order_ok (N : Nat) (v : Value) (es : List (Nat × Nat)) (hv : Eg H v es) (hN : N ≤ 200) (he : es.length ≤ 1000) (hval : ∀ e ∈ es, e.1 < N ∧ e.2 < N) :
    Fn Try.prog 21 [.agg #[I N, v]] H fun r H' => ∃ (out : List Nat) (w : Value), Top es N out ∧ ((out.length = N ∧ r = .tuple #[w, I 0] ∧ St Try.prog H H' [⟨w, 1, nts out⟩]) ∨
      (out.length < N ∧ (∀ i, i < N → ¬ rdy es out i) ∧ r = .tuple #[.slice none 0 0, I 22] ∧ St Try.prog H H' [])) := by
  refine Fn.of_wp (fn := Try.f21) rfl rfl (by kernel_rfl) fun l hl => ?_
  have hn : l.length = 66 := by rw [hl]; rfl
  have g0 : get l 0 = .agg #[I N, v] := by rw [hl]; rfl
  clear hl
  repeat first | (with_reducible first | refine Wp.seq ?_ | refine Wp.reg ?_ | refine Wp.block ?_ | refine Wp.skip ?_ | refine Wp.ret ?_ | refine Wp.exit ?_ | refine Wp.label ?_ | refine Wp.condG ?_) | simp (disch := omega) only [↓RP, RQ, TS, TR, ↓reduceIte, Nat.reduceEqDiff, Nat.reduceLT, Nat.reduceLeDiff, Int.reduceLT, Int.reduceLE, Int.reduceEq, Int.reduceAdd, Int.reduceSub, Int.reduceNeg, Int.reduceToNat, Nat.reduceAdd, Nat.reduceMul, Nat.reduceSub, reduceCtorEq, RC, Int.cast_ofNat_Int, hn, g0]
  refine (St.refl _ H).eNew 2 [I N, v] rfl rfl (by simp [hv.one]; rfl) tS27 fun A H1 hS => ?_
  repeat first | (with_reducible first | refine Wp.seq ?_ | refine Wp.reg ?_ | refine Wp.block ?_ | refine Wp.skip ?_ | refine Wp.ret ?_ | refine Wp.exit ?_ | refine Wp.label ?_ | refine Wp.condG ?_) | simp (disch := omega) only [↓RP, RQ, TS, TR, ↓reduceIte, Nat.reduceEqDiff, Nat.reduceLT, Nat.reduceLeDiff, Int.reduceLT, Int.reduceLE, Int.reduceEq, Int.reduceAdd, Int.reduceSub, Int.reduceNeg, Int.reduceToNat, Nat.reduceAdd, Nat.reduceMul, Nat.reduceSub, reduceCtorEq, RC, Int.cast_ofNat_Int, hn, g0, hS.ldA 0 rfl]
  refine callFW_of (check_ok N v es (hS.base hv) hN he hval) ?_
  rintro r H2 ⟨rfl, hS2⟩
  have hS := hS.trans hS2
  simp only [List.nil_append, List.cons_append, List.append_nil, List.set_cons_zero, List.set_cons_succ, setMany_cons, setMany_nil, Nat.zero_add, Nat.mul_one, Nat.add_zero] at hS
  repeat first | (with_reducible first | refine Wp.seq ?_ | refine Wp.reg ?_ | refine Wp.block ?_ | refine Wp.skip ?_ | refine Wp.ret ?_ | refine Wp.exit ?_ | refine Wp.label ?_ | refine Wp.condG ?_) | simp (disch := omega) only [↓RP, RQ, TS, TR, ↓reduceIte, Nat.reduceEqDiff, Nat.reduceLT, Nat.reduceLeDiff, Int.reduceLT, Int.reduceLE, Int.reduceEq, Int.reduceAdd, Int.reduceSub, Int.reduceNeg, Int.reduceToNat, Nat.reduceAdd, Nat.reduceMul, Nat.reduceSub, reduceCtorEq, RC, Int.cast_ofNat_Int, hn, g0, hS.ld 0 rfl]
  refine hS.eMake1 N tM29 (by omega) fun w H3 hS => ?_
  repeat first | (with_reducible first | refine Wp.seq ?_ | refine Wp.reg ?_ | refine Wp.block ?_ | refine Wp.skip ?_ | refine Wp.ret ?_ | refine Wp.exit ?_ | refine Wp.label ?_ | refine Wp.condG ?_) | simp (disch := omega) only [↓RP, RQ, TS, TR, ↓reduceIte, Nat.reduceEqDiff, Nat.reduceLT, Nat.reduceLeDiff, Int.reduceLT, Int.reduceLE, Int.reduceEq, Int.reduceAdd, Int.reduceSub, Int.reduceNeg, Int.reduceToNat, Nat.reduceAdd, Nat.reduceMul, Nat.reduceSub, reduceCtorEq, RC, Int.cast_ofNat_Int, hn, g0]
  refine hS.eNew 1 [.slice none 0 0] rfl rfl rfl tS29 fun D H4 hS => ?_
  have hw := (hS.rd 1 rfl).cells
  repeat first | (with_reducible first | refine Wp.seq ?_ | refine Wp.reg ?_ | refine Wp.block ?_ | refine Wp.skip ?_ | refine Wp.ret ?_ | refine Wp.exit ?_ | refine Wp.label ?_ | refine Wp.condG ?_) | simp (disch := omega) only [↓RP, RQ, TS, TR, ↓reduceIte, Nat.reduceEqDiff, Nat.reduceLT, Nat.reduceLeDiff, Int.reduceLT, Int.reduceLE, Int.reduceEq, Int.reduceAdd, Int.reduceSub, Int.reduceNeg, Int.reduceToNat, Nat.reduceAdd, Nat.reduceMul, Nat.reduceSub, reduceCtorEq, RC, Int.cast_ofNat_Int, hn, g0]
  refine hS.eStore 2 rfl [w] (by rw [hw.1]) (by simp [hw.2.1]) tS29 (by simp) fun H5 hS => ?_
  simp only [List.nil_append, List.cons_append, List.append_nil, List.set_cons_zero, List.set_cons_succ, setMany_cons, setMany_nil, Nat.zero_add, Nat.mul_one, Nat.add_zero] at hS
  rw [show List.replicate N (Value.int .i64 0) = (List.replicate N (0 : Int)).map (.int .i64) from by simp] at hS
  have hv1 : Sl2 H5 v _ _ es := hS.base hv
  repeat first | (with_reducible first | refine Wp.seq ?_ | refine Wp.reg ?_ | refine Wp.block ?_ | refine Wp.skip ?_ | refine Wp.ret ?_ | refine Wp.exit ?_ | refine Wp.label ?_ | refine Wp.condG ?_) | simp (disch := omega) only [↓RP, RQ, TS, TR, ↓reduceIte, Nat.reduceEqDiff, Nat.reduceLT, Nat.reduceLeDiff, Int.reduceLT, Int.reduceLE, Int.reduceEq, Int.reduceAdd, Int.reduceSub, Int.reduceNeg, Int.reduceToNat, Nat.reduceAdd, Nat.reduceMul, Nat.reduceSub, reduceCtorEq, RC, Int.cast_ofNat_Int, hn, g0, hS.ld 0 rfl, hv1.len]
  refine Wp.loopN (fun n l H' => l.length = 66 ∧ get l 1 = ptr A 0 2 ∧ get l 5 = ptr D 0 1 ∧ get l 20 = v ∧ get l 21 = I es.length ∧ ∃ (i : Nat) (d : List Int), n + i = es.length ∧ get l 22 = I i ∧ Wt (es.take i) N [] d ∧
    St Try.prog H H' [⟨ptr A 0 2, 0, [I N, v]⟩, ⟨w, 1, d.map (.int .i64)⟩, ⟨ptr D 0 1, 0, [w]⟩]) es.length ?_ ?_
  · repeat first | (with_reducible first | refine Wp.seq ?_ | refine Wp.reg ?_ | refine Wp.block ?_ | refine Wp.skip ?_ | refine Wp.ret ?_ | refine Wp.exit ?_ | refine Wp.label ?_ | refine Wp.condG ?_) | simp (disch := omega) only [↓RP, RQ, TS, TR, ↓reduceIte, Nat.reduceEqDiff, Nat.reduceLT, Nat.reduceLeDiff, Int.reduceLT, Int.reduceLE, Int.reduceEq, Int.reduceAdd, Int.reduceSub, Int.reduceNeg, Int.reduceToNat, Nat.reduceAdd, Nat.reduceMul, Nat.reduceSub, reduceCtorEq, RC, Int.cast_ofNat_Int, hn, g0]
    refine ⟨0, _, rfl, rfl, ⟨by simp, (fun k _ h => by cases h), (fun k hk _ => ?_)⟩, hS⟩
    simp [cA, List.getD_eq_getElem?_getD, hk]
  clear hS hS2 hn g0 hv1 hw
  · rintro n l H' ⟨hn, g1, g5, g20, g21, i, d, hi, g22, hW, hS⟩
    have hv1 : Sl2 H' v _ _ es := hS.base hv
    repeat first | (with_reducible first | refine Wp.seq ?_ | refine Wp.reg ?_ | refine Wp.block ?_ | refine Wp.skip ?_ | refine Wp.ret ?_ | refine Wp.exit ?_ | refine Wp.label ?_ | refine Wp.condG ?_) | simp (disch := omega) only [↓RP, RQ, TS, TR, ↓reduceIte, Nat.reduceEqDiff, Nat.reduceLT, Nat.reduceLeDiff, Int.reduceLT, Int.reduceLE, Int.reduceEq, Int.reduceAdd, Int.reduceSub, Int.reduceNeg, Int.reduceToNat, Nat.reduceAdd, Nat.reduceMul, Nat.reduceSub, reduceCtorEq, RC, Int.cast_ofNat_Int, hn, g1, g5, g20, g21, g22]
    refine condW_split (fun h => ?_) (fun h => ?_)
    · have hil : i < es.length := by omega
      have hm := hval _ (getD_mem (0, 0) hil)
      repeat first | (with_reducible first | refine Wp.seq ?_ | refine Wp.reg ?_ | refine Wp.block ?_ | refine Wp.skip ?_ | refine Wp.ret ?_ | refine Wp.exit ?_ | refine Wp.label ?_ | refine Wp.condG ?_) | simp (disch := omega) only [↓RP, RQ, TS, TR, ↓reduceIte, Nat.reduceEqDiff, Nat.reduceLT, Nat.reduceLeDiff, Int.reduceLT, Int.reduceLE, Int.reduceEq, Int.reduceAdd, Int.reduceSub, Int.reduceNeg, Int.reduceToNat, Nat.reduceAdd, Nat.reduceMul, Nat.reduceSub, reduceCtorEq, RC, Int.cast_ofNat_Int, hn, g1, g5, g20, g21, g22, hv1.idx, hv1.ldA (0, 0)]
      refine hS.eNew 2 [I 0, I 0] rfl rfl rfl tS48 fun C H5 hS => ?_
      repeat first | (with_reducible first | refine Wp.seq ?_ | refine Wp.reg ?_ | refine Wp.block ?_ | refine Wp.skip ?_ | refine Wp.ret ?_ | refine Wp.exit ?_ | refine Wp.label ?_ | refine Wp.condG ?_) | simp (disch := omega) only [↓RP, RQ, TS, TR, ↓reduceIte, Nat.reduceEqDiff, Nat.reduceLT, Nat.reduceLeDiff, Int.reduceLT, Int.reduceLE, Int.reduceEq, Int.reduceAdd, Int.reduceSub, Int.reduceNeg, Int.reduceToNat, Nat.reduceAdd, Nat.reduceMul, Nat.reduceSub, reduceCtorEq, RC, Int.cast_ofNat_Int, hn, g1, g5, g20, g21, g22]
      refine hS.eStore 3 rfl [_, _] rfl rfl tS48 (by simp) fun H6 hS => ?_
      simp only [List.nil_append, List.cons_append, List.append_nil, List.set_cons_zero, List.set_cons_succ, setMany_cons, setMany_nil, Nat.zero_add, Nat.mul_one, Nat.add_zero] at hS
      have hd1 : Sl1 H6 w (.int .i64) d := hS.rd 1 rfl
      have hdl := hW.len
      have hcnt : cA (es.take i) [] (es.getD i (0, 0)).2 ≤ es.length := Nat.le_trans List.countP_le_length (by simp; omega)
      have hdv := hW.new _ hm.2 (by simp)
      repeat first | (with_reducible first | refine Wp.seq ?_ | refine Wp.reg ?_ | refine Wp.block ?_ | refine Wp.skip ?_ | refine Wp.ret ?_ | refine Wp.exit ?_ | refine Wp.label ?_ | refine Wp.condG ?_) | simp (disch := omega) only [↓RP, RQ, TS, TR, ↓reduceIte, Nat.reduceEqDiff, Nat.reduceLT, Nat.reduceLeDiff, Int.reduceLT, Int.reduceLE, Int.reduceEq, Int.reduceAdd, Int.reduceSub, Int.reduceNeg, Int.reduceToNat, Nat.reduceAdd, Nat.reduceMul, Nat.reduceSub, reduceCtorEq, RC, Int.cast_ofNat_Int, hn, g1, g5, g20, g21, g22, hS.ld 2 rfl, hS.ld 3 rfl, hd1.idx, hd1.ld 0, wrap_fit]
      refine hS.eStoreE 1 rfl [_] rfl rfl tS3 (by simp) (by simp only [List.length_map, List.length_cons, List.length_nil]; omega) fun H7 hS => ?_
      simp only [List.nil_append, List.cons_append, List.append_nil, List.set_cons_zero, List.set_cons_succ, setMany_cons, setMany_nil, Nat.zero_add, Nat.mul_one, Nat.add_zero] at hS
      rw [← List.map_set] at hS
      repeat first | (with_reducible first | refine Wp.seq ?_ | refine Wp.reg ?_ | refine Wp.block ?_ | refine Wp.skip ?_ | refine Wp.ret ?_ | refine Wp.exit ?_ | refine Wp.label ?_ | refine Wp.condG ?_) | simp (disch := omega) only [↓RP, RQ, TS, TR, ↓reduceIte, Nat.reduceEqDiff, Nat.reduceLT, Nat.reduceLeDiff, Int.reduceLT, Int.reduceLE, Int.reduceEq, Int.reduceAdd, Int.reduceSub, Int.reduceNeg, Int.reduceToNat, Nat.reduceAdd, Nat.reduceMul, Nat.reduceSub, reduceCtorEq, RC, Int.cast_ofNat_Int, hn, g1, g5, g20, g21, g22, wrap_fit]
      refine ⟨n - 1, by omega, i + 1, d.set (es.getD i (0, 0)).2 (d.getD (es.getD i (0, 0)).2 0 + 1), by omega, rfl, ⟨by rw [List.length_set]; exact hdl, (fun k _ h => by cases h), (fun k hk _ => ?_)⟩, hS.sub (.cons_cons _ (.cons_cons _ (.cons_cons _ (.cons _ (.refl _)))))⟩
      rw [getD_set _ _ _ _ (by omega)]
      have hk0 := hW.new k hk (by simp)
      have e : cA (es.take (i + 1)) [] k = cA (es.take i) [] k + if (es.getD i (0, 0)).2 = k then 1 else 0 := by
        rw [take_succ_getD es i (0, 0) hil]
        unfold cA
        rw [List.countP_append]
        simp [List.countP_cons]
      rw [e]
      by_cases hk2 : k = (es.getD i (0, 0)).2
      · rw [if_pos hk2, if_pos hk2.symm, hk2, hdv]
        simp
      · rw [if_neg hk2, if_neg (fun hh => hk2 hh.symm), hk0]
        simp
    · have hie : i = es.length := by omega
      subst hie
      rw [List.take_length] at hW
      repeat first | (with_reducible first | refine Wp.seq ?_ | refine Wp.reg ?_ | refine Wp.block ?_ | refine Wp.skip ?_ | refine Wp.ret ?_ | refine Wp.exit ?_ | refine Wp.label ?_ | refine Wp.condG ?_) | simp (disch := omega) only [↓RP, RQ, TS, TR, ↓reduceIte, Nat.reduceEqDiff, Nat.reduceLT, Nat.reduceLeDiff, Int.reduceLT, Int.reduceLE, Int.reduceEq, Int.reduceAdd, Int.reduceSub, Int.reduceNeg, Int.reduceToNat, Nat.reduceAdd, Nat.reduceMul, Nat.reduceSub, reduceCtorEq, RC, Int.cast_ofNat_Int, hn, g1, g5, g20, g21, g22]
      have hS := (hS.nil 0).front
      simp only [List.nil_append, List.cons_append, List.append_nil, List.set_cons_zero, List.set_cons_succ, setMany_cons, setMany_nil, Nat.zero_add, Nat.mul_one, Nat.add_zero] at hS
      refine Wp.loopN (fun n l H' => l.length = 66 ∧ get l 1 = ptr A 0 2 ∧ get l 5 = ptr D 0 1 ∧ ∃ (out : List Nat) (ov : Value) (d : List Int), n + out.length = N ∧ get l 8 = ov ∧ Top es N out ∧ Wt es N out d ∧
        St Try.prog H H' [⟨ov, 1, nts out⟩, ⟨ptr A 0 2, 0, [I N, v]⟩, ⟨w, 1, d.map (.int .i64)⟩, ⟨ptr D 0 1, 0, [w]⟩]) N ?_ ?_
      · repeat first | (with_reducible first | refine Wp.seq ?_ | refine Wp.reg ?_ | refine Wp.block ?_ | refine Wp.skip ?_ | refine Wp.ret ?_ | refine Wp.exit ?_ | refine Wp.label ?_ | refine Wp.condG ?_) | simp (disch := omega) only [↓RP, RQ, TS, TR, ↓reduceIte, Nat.reduceEqDiff, Nat.reduceLT, Nat.reduceLeDiff, Int.reduceLT, Int.reduceLE, Int.reduceEq, Int.reduceAdd, Int.reduceSub, Int.reduceNeg, Int.reduceToNat, Nat.reduceAdd, Nat.reduceMul, Nat.reduceSub, reduceCtorEq, RC, Int.cast_ofNat_Int, hn, g1, g5]
        exact ⟨[], _, d, rfl, rfl, .nil, hW, hS⟩
      clear hS hn g1 g5 g20 g21 g22 hW hv1 h hi
      rintro n l H' ⟨hn, g1, g5, out, ov, d, hnl, g8, hT, hW, hS⟩
      have hov : Sl1 H' ov (fun n : Nat => I n) out := hS.rd 0 rfl
      repeat first | (with_reducible first | refine Wp.seq ?_ | refine Wp.reg ?_ | refine Wp.block ?_ | refine Wp.skip ?_ | refine Wp.ret ?_ | refine Wp.exit ?_ | refine Wp.label ?_ | refine Wp.condG ?_) | simp (disch := omega) only [↓RP, RQ, TS, TR, ↓reduceIte, Nat.reduceEqDiff, Nat.reduceLT, Nat.reduceLeDiff, Int.reduceLT, Int.reduceLE, Int.reduceEq, Int.reduceAdd, Int.reduceSub, Int.reduceNeg, Int.reduceToNat, Nat.reduceAdd, Nat.reduceMul, Nat.reduceSub, reduceCtorEq, RC, Int.cast_ofNat_Int, hn, g1, g5, g8, hov.len, hS.ld 1 rfl]
      refine condW_split (fun h => ?_) (fun h => ?_)
      · have hd1 : Sl1 H' w (.int .i64) d := hS.rd 2 rfl
        have hdl := hW.len
        repeat first | (with_reducible first | refine Wp.seq ?_ | refine Wp.reg ?_ | refine Wp.block ?_ | refine Wp.skip ?_ | refine Wp.ret ?_ | refine Wp.exit ?_ | refine Wp.label ?_ | refine Wp.condG ?_) | simp (disch := omega) only [↓RP, RQ, TS, TR, ↓reduceIte, Nat.reduceEqDiff, Nat.reduceLT, Nat.reduceLeDiff, Int.reduceLT, Int.reduceLE, Int.reduceEq, Int.reduceAdd, Int.reduceSub, Int.reduceNeg, Int.reduceToNat, Nat.reduceAdd, Nat.reduceMul, Nat.reduceSub, reduceCtorEq, RC, Int.cast_ofNat_Int, hn, g1, g5, g8, hS.ld 3 rfl]
        refine callFW_of (index_ok w 0 d hd1 (by omega)) ?_
        rintro r H2 ⟨rfl, ⟨x, hx1, rfl, hx2, hx3⟩ | ⟨rfl, hx⟩⟩
        · have hxN : x < N := by omega
          have hrx := (hW.rdy hxN).1 hx2
          have hlx : ∀ j, j < x → ¬ rdy es out j := fun j hj hr => hx3 j hj ((hW.rdy (by omega)).2 hr)
          have hT' := hT.step hxN hrx hlx
          repeat first | (with_reducible first | refine Wp.seq ?_ | refine Wp.reg ?_ | refine Wp.block ?_ | refine Wp.skip ?_ | refine Wp.ret ?_ | refine Wp.exit ?_ | refine Wp.label ?_ | refine Wp.condG ?_) | simp (disch := omega) only [↓RP, RQ, TS, TR, ↓reduceIte, Nat.reduceEqDiff, Nat.reduceLT, Nat.reduceLeDiff, Int.reduceLT, Int.reduceLE, Int.reduceEq, Int.reduceAdd, Int.reduceSub, Int.reduceNeg, Int.reduceToNat, Nat.reduceAdd, Nat.reduceMul, Nat.reduceSub, reduceCtorEq, RC, Int.cast_ofNat_Int, hn, g1, g5, g8]
          refine condW_split (fun h3 => absurd h3 (by omega)) (fun _ => ?_)
          repeat first | (with_reducible first | refine Wp.seq ?_ | refine Wp.reg ?_ | refine Wp.block ?_ | refine Wp.skip ?_ | refine Wp.ret ?_ | refine Wp.exit ?_ | refine Wp.label ?_ | refine Wp.condG ?_) | simp (disch := omega) only [↓RP, RQ, TS, TR, ↓reduceIte, Nat.reduceEqDiff, Nat.reduceLT, Nat.reduceLeDiff, Int.reduceLT, Int.reduceLE, Int.reduceEq, Int.reduceAdd, Int.reduceSub, Int.reduceNeg, Int.reduceToNat, Nat.reduceAdd, Nat.reduceMul, Nat.reduceSub, reduceCtorEq, RC, Int.cast_ofNat_Int, hn, g1, g5, g8, hS.ld 3 rfl, hd1.idx]
          refine hS.eStoreE 2 rfl [_] rfl rfl tS3 (by simp) (by simp only [List.length_map, List.length_cons, List.length_nil]; omega) fun H3 hS => ?_
          simp only [List.nil_append, List.cons_append, List.append_nil, List.set_cons_zero, List.set_cons_succ, setMany_cons, setMany_nil, Nat.zero_add, Nat.mul_one, Nat.add_zero] at hS
          rw [← List.map_set] at hS
          repeat first | (with_reducible first | refine Wp.seq ?_ | refine Wp.reg ?_ | refine Wp.block ?_ | refine Wp.skip ?_ | refine Wp.ret ?_ | refine Wp.exit ?_ | refine Wp.label ?_ | refine Wp.condG ?_) | simp (disch := omega) only [↓RP, RQ, TS, TR, ↓reduceIte, Nat.reduceEqDiff, Nat.reduceLT, Nat.reduceLeDiff, Int.reduceLT, Int.reduceLE, Int.reduceEq, Int.reduceAdd, Int.reduceSub, Int.reduceNeg, Int.reduceToNat, Nat.reduceAdd, Nat.reduceMul, Nat.reduceSub, reduceCtorEq, RC, Int.cast_ofNat_Int, hn, g1, g5, g8]
          refine hS.eSlice [I x] tP29 tF29 rfl rfl (by simp [Value.cells]) rfl rfl (by decide) (by decide) fun y H4 hS => ?_
          repeat first | (with_reducible first | refine Wp.seq ?_ | refine Wp.reg ?_ | refine Wp.block ?_ | refine Wp.skip ?_ | refine Wp.ret ?_ | refine Wp.exit ?_ | refine Wp.label ?_ | refine Wp.condG ?_) | simp (disch := omega) only [↓RP, RQ, TS, TR, ↓reduceIte, Nat.reduceEqDiff, Nat.reduceLT, Nat.reduceLeDiff, Int.reduceLT, Int.reduceLE, Int.reduceEq, Int.reduceAdd, Int.reduceSub, Int.reduceNeg, Int.reduceToNat, Nat.reduceAdd, Nat.reduceMul, Nat.reduceSub, reduceCtorEq, RC, Int.cast_ofNat_Int, hn, g1, g5, g8]
          refine hS.eAppend 0 rfl (hS.rd 4 rfl) tP29 (by simp only [nts, List.length_map, List.length_cons, List.length_nil]; omega) fun ov' H5 hS => ?_
          simp only [List.nil_append, List.cons_append, List.append_nil, List.set_cons_zero, List.set_cons_succ, setMany_cons, setMany_nil, Nat.zero_add, Nat.mul_one, Nat.add_zero] at hS
          have hS := hS.sub (os' := [⟨ov', 1, nts (out ++ [x])⟩, ⟨ptr A 0 2, 0, [I N, v]⟩, ⟨w, 1, (d.set x (-1)).map (.int .i64)⟩, ⟨ptr D 0 1, 0, [w]⟩]) (by simp [nts])
          repeat first | (with_reducible first | refine Wp.seq ?_ | refine Wp.reg ?_ | refine Wp.block ?_ | refine Wp.skip ?_ | refine Wp.ret ?_ | refine Wp.exit ?_ | refine Wp.label ?_ | refine Wp.condG ?_) | simp (disch := omega) only [↓RP, RQ, TS, TR, ↓reduceIte, Nat.reduceEqDiff, Nat.reduceLT, Nat.reduceLeDiff, Int.reduceLT, Int.reduceLE, Int.reduceEq, Int.reduceAdd, Int.reduceSub, Int.reduceNeg, Int.reduceToNat, Nat.reduceAdd, Nat.reduceMul, Nat.reduceSub, reduceCtorEq, RC, Int.cast_ofNat_Int, hn, g1, g5, hS.ldA 1 rfl]
          refine callFW_of (out1_ok N x v hv.one) ?_
          rintro r H6 ⟨Ag, An, rfl, hS2⟩
          have hS := hS.trans hS2
          simp only [List.nil_append, List.cons_append, List.append_nil, List.set_cons_zero, List.set_cons_succ, setMany_cons, setMany_nil, Nat.zero_add, Nat.mul_one, Nat.add_zero] at hS
          repeat first | (with_reducible first | refine Wp.seq ?_ | refine Wp.reg ?_ | refine Wp.block ?_ | refine Wp.skip ?_ | refine Wp.ret ?_ | refine Wp.exit ?_ | refine Wp.label ?_ | refine Wp.condG ?_) | simp (disch := omega) only [↓RP, RQ, TS, TR, ↓reduceIte, Nat.reduceEqDiff, Nat.reduceLT, Nat.reduceLeDiff, Int.reduceLT, Int.reduceLE, Int.reduceEq, Int.reduceAdd, Int.reduceSub, Int.reduceNeg, Int.reduceToNat, Nat.reduceAdd, Nat.reduceMul, Nat.reduceSub, reduceCtorEq, RC, Int.cast_ofNat_Int, hn, g1, g5]
          refine Wp.slots fun l' hl' => ?_
          have hn' : l'.length = 66 := by rw [hl']; simp (disch := omega) only [↓RP, RQ, TS, TR, ↓reduceIte, Nat.reduceEqDiff, Nat.reduceLT, Nat.reduceLeDiff, Int.reduceLT, Int.reduceLE, Int.reduceEq, Int.reduceAdd, Int.reduceSub, Int.reduceNeg, Int.reduceToNat, Nat.reduceAdd, Nat.reduceMul, Nat.reduceSub, reduceCtorEq, RC, Int.cast_ofNat_Int, hn]
          have g1' : get l' 1 = ptr A 0 2 := by rw [hl']; simp (disch := omega) only [↓RP, RQ, TS, TR, ↓reduceIte, Nat.reduceEqDiff, Nat.reduceLT, Nat.reduceLeDiff, Int.reduceLT, Int.reduceLE, Int.reduceEq, Int.reduceAdd, Int.reduceSub, Int.reduceNeg, Int.reduceToNat, Nat.reduceAdd, Nat.reduceMul, Nat.reduceSub, reduceCtorEq, RC, Int.cast_ofNat_Int, hn, g1]
          have g5' : get l' 5 = ptr D 0 1 := by rw [hl']; simp (disch := omega) only [↓RP, RQ, TS, TR, ↓reduceIte, Nat.reduceEqDiff, Nat.reduceLT, Nat.reduceLeDiff, Int.reduceLT, Int.reduceLE, Int.reduceEq, Int.reduceAdd, Int.reduceSub, Int.reduceNeg, Int.reduceToNat, Nat.reduceAdd, Nat.reduceMul, Nat.reduceSub, reduceCtorEq, RC, Int.cast_ofNat_Int, hn, g5]
          have g8' : get l' 8 = ov' := by rw [hl']; simp (disch := omega) only [↓RP, RQ, TS, TR, ↓reduceIte, Nat.reduceEqDiff, Nat.reduceLT, Nat.reduceLeDiff, Int.reduceLT, Int.reduceLE, Int.reduceEq, Int.reduceAdd, Int.reduceSub, Int.reduceNeg, Int.reduceToNat, Nat.reduceAdd, Nat.reduceMul, Nat.reduceSub, reduceCtorEq, RC, Int.cast_ofNat_Int, hn]
          have g52' : get l' 52 = .func (.func 50) #[] [ptr Ag 0 2, ptr An 0 1].toArray := by rw [hl']; simp (disch := omega) only [↓RP, RQ, TS, TR, ↓reduceIte, Nat.reduceEqDiff, Nat.reduceLT, Nat.reduceLeDiff, Int.reduceLT, Int.reduceLE, Int.reduceEq, Int.reduceAdd, Int.reduceSub, Int.reduceNeg, Int.reduceToNat, Nat.reduceAdd, Nat.reduceMul, Nat.reduceSub, reduceCtorEq, RC, Int.cast_ofNat_Int, hn]
          clear hl' hn g1 g5 g8 hS2 hd1 hov
          refine Wp.rangeR g52' fun r hst hpd htm hps has hbd => ?_
          have hreq : ({ r with state := .ready, pending := none } : Loop) = r := by
            cases r
            simp only at hst hpd
            subst hst hpd
            rfl
          have hLp := Lp.enter hS r
          generalize H6.cons (.loop r) = Hc at hLp ⊢
          generalize H6.length = L at hLp ⊢
          clear hS
          have hcCl : ∀ j k, cC (es.take j) x k ≤ es.length := fun j k => Nat.le_trans List.countP_le_length (by simp; omega)
          have hcAl : ∀ k, cA es out k ≤ es.length := fun k => List.countP_le_length
          have hj0 : Wj es N out x 0 (d.set x (-1)) := by
            refine ⟨by rw [List.length_set]; exact hdl, fun k hk hm => ?_, fun k hk hm => ?_⟩
            · rw [getD_set _ _ _ _ (by omega)]
              split
              · rfl
              · rename_i hne
                rcases List.mem_append.1 hm with hm | hm
                · exact hW.old k hk hm
                · exact (hne (List.mem_singleton.1 hm)).elim
            · have hne : k ≠ x := fun hh => hm (by rw [hh]; simp)
              rw [getD_set _ _ _ _ (by omega), if_neg hne, hW.new k hk (fun hh => hm (List.mem_append_left _ hh))]
              simp [cC]
          refine (out_ok N x v es he Ag An (.func (.yield L) #[] #[])
            (fun j H1 => ∃ dd, Wj es N out x j dd ∧ Lp Try.prog H L r H1 [⟨ov', 1, nts (out ++ [x])⟩, ⟨ptr A 0 2, 0, [I N, v]⟩, ⟨w, 1, dd.map (.int .i64)⟩, ⟨ptr D 0 1, 0, [w]⟩, ⟨ptr Ag 0 2, 0, [I N, v]⟩, ⟨ptr An 0 1, 0, [I x]⟩])
            (fun _ => False) ⟨_, hj0, hLp⟩ ?_ ?_ ?_ ?_).mono ?_
          · rintro j H1 ⟨dd, _, h1⟩
            exact ⟨h1.st.var 4 rfl, h1.st.var 5 rfl, h1.st.base hv⟩
          · rintro j H1 H2 ⟨dd, h1, h2⟩ h3
            exact ⟨dd, h1, by simpa using h2.ext h3⟩
          · rintro j H1 hj hne ⟨dd, h1, h2⟩
            refine ⟨dd, ⟨h1.len, h1.old, fun k hk hm => ?_⟩, h2⟩
            rw [h1.new k hk hm, cC_take es x k j hj, if_neg (fun hh => hne hh.1)]
            simp
          · rintro j H1 hj hja ⟨dd, hJ, h1⟩
            have hme := getD_mem (0, 0) hj
            have hm := hval _ hme
            have htn : (es.getD j (0, 0)).2 ∉ out ++ [x] := by
              intro hh
              rcases List.mem_append.1 hh with hh | hh
              · have := hT.pred _ hme hh
                rw [hja] at this
                exact hrx.1 this
              · have := hrx.2 _ hme (List.mem_singleton.1 hh)
                rw [hja] at this
                exact hrx.1 this
            have hdt := hJ.new _ hm.2 htn
            have hb1 := hcCl j (es.getD j (0, 0)).2
            have hb2 := hcAl (es.getD j (0, 0)).2
            have hjl := hJ.len
            refine callW_yield h1.get (by rw [hps]; rfl) hst ?_
            refine Wp.of_eq (l := put l' (some 53) (I j)) has (by rw [hps, htm]; exact (setL_eq ..).symm) ?_
            repeat first | (with_reducible first | refine Wp.seq ?_ | refine Wp.reg ?_ | refine Wp.block ?_ | refine Wp.skip ?_ | refine Wp.ret ?_ | refine Wp.exit ?_ | refine Wp.label ?_ | refine Wp.condG ?_) | simp (disch := omega) only [↓RP, RQ, TS, TR, ↓reduceIte, Nat.reduceEqDiff, Nat.reduceLT, Nat.reduceLeDiff, Int.reduceLT, Int.reduceLE, Int.reduceEq, Int.reduceAdd, Int.reduceSub, Int.reduceNeg, Int.reduceToNat, Nat.reduceAdd, Nat.reduceMul, Nat.reduceSub, reduceCtorEq, RC, Int.cast_ofNat_Int, hn']
            refine ⟨r, h1.get, hst, ?_⟩
            have hB := h1.set (fun h => h) { r with state := .busy }
            generalize hset H1 L (.loop { r with state := .busy }) = Hb at hB ⊢
            refine Wp.of_eq hbd rfl ?_
            have hS := hB.st.rebase
            have hv1 : Sl2 Hb v _ _ es := hB.st.base hv
            have hd1 : Sl1 Hb w (.int .i64) dd := hS.rd 2 rfl
            repeat first | (with_reducible first | refine Wp.seq ?_ | refine Wp.reg ?_ | refine Wp.block ?_ | refine Wp.skip ?_ | refine Wp.ret ?_ | refine Wp.exit ?_ | refine Wp.label ?_ | refine Wp.condG ?_) | with_reducible refine Wp.drw hmix (by kernel_rfl) ?_ | simp (disch := omega) only [↓RP, RQ, TS, TR, ↓reduceIte, Nat.reduceEqDiff, Nat.reduceLT, Nat.reduceLeDiff, Int.reduceLT, Int.reduceLE, Int.reduceEq, Int.reduceAdd, Int.reduceSub, Int.reduceNeg, Int.reduceToNat, Nat.reduceAdd, Nat.reduceMul, Nat.reduceSub, reduceCtorEq, RC, Int.cast_ofNat_Int, hn', g1', g5', g8', hS.ld 1 rfl, hS.ld 3 rfl, hv1.idx, hv1.fld, hv1.ld1 (0, 0), hd1.idx, hd1.ld 0, wrap_fit]
            refine hS.eStoreE 2 rfl [_] rfl rfl tS3 (by simp) (by simp only [List.length_map, List.length_cons, List.length_nil]; omega) fun H8 hS => ?_
            simp only [List.nil_append, List.cons_append, List.append_nil, List.set_cons_zero, List.set_cons_succ, setMany_cons, setMany_nil, Nat.zero_add, Nat.mul_one, Nat.add_zero] at hS
            rw [← List.map_set] at hS
            repeat first | (with_reducible first | refine Wp.seq ?_ | refine Wp.reg ?_ | refine Wp.block ?_ | refine Wp.skip ?_ | refine Wp.ret ?_ | refine Wp.exit ?_ | refine Wp.label ?_ | refine Wp.condG ?_) | simp (disch := omega) only [↓RP, RQ, TS, TR, ↓reduceIte, Nat.reduceEqDiff, Nat.reduceLT, Nat.reduceLeDiff, Int.reduceLT, Int.reduceLE, Int.reduceEq, Int.reduceAdd, Int.reduceSub, Int.reduceNeg, Int.reduceToNat, Nat.reduceAdd, Nat.reduceMul, Nat.reduceSub, reduceCtorEq, RC, Int.cast_ofNat_Int, hn', g1', g5', g8']
            have hB2 := hB.body hS
            refine ⟨_, hB2.get, true, rfl, (fun _ => ⟨dd.set (es.getD j (0, 0)).2 (dd.getD (es.getD j (0, 0)).2 0 - 1), ?_, ?_⟩), (fun h => by cases h)⟩
            · refine ⟨by rw [List.length_set]; exact hjl, fun k hk hmk => ?_, fun k hk hmk => ?_⟩
              · rw [getD_set _ _ _ _ (by omega), if_neg (fun hh => htn (by rw [← hh]; exact hmk))]
                exact hJ.old k hk hmk
              · rw [getD_set _ _ _ _ (by omega), cC_take es x k j hj]
                by_cases hk2 : k = (es.getD j (0, 0)).2
                · rw [if_pos hk2, if_pos ⟨hja, hk2.symm⟩, hk2, hdt]
                  simp
                  omega
                · rw [if_neg hk2, if_neg (fun hh => hk2 hh.2.symm), hJ.new k hk hmk]
                  simp
            · have := hB2.set (fun h => h) r
              rw [← hreq] at this
              exact hreq ▸ this
          · rintro _ H7 (⟨dd, hJ, h1⟩ | hf)
            · refine ⟨_, h1.get, (by rw [hst]; intro h; cases h), (fun _ => ?_), (fun c hc => by rw [hpd] at hc; cases hc)⟩
              have hB := h1.set (fun h => h) { r with state := .exhausted }
              have hS := hB.st
              generalize hset H7 L (.loop { r with state := .exhausted }) = H8 at hS ⊢
              repeat first | (with_reducible first | refine Wp.seq ?_ | refine Wp.reg ?_ | refine Wp.block ?_ | refine Wp.skip ?_ | refine Wp.ret ?_ | refine Wp.exit ?_ | refine Wp.label ?_ | refine Wp.condG ?_) | simp (disch := omega) only [↓RP, RQ, TS, TR, ↓reduceIte, Nat.reduceEqDiff, Nat.reduceLT, Nat.reduceLeDiff, Int.reduceLT, Int.reduceLE, Int.reduceEq, Int.reduceAdd, Int.reduceSub, Int.reduceNeg, Int.reduceToNat, Nat.reduceAdd, Nat.reduceMul, Nat.reduceSub, reduceCtorEq, RC, Int.cast_ofNat_Int, hn', g1', g5', g8']
              refine ⟨n - 1, by omega, out ++ [x], ov', dd, ?_, rfl, hT', ⟨hJ.len, hJ.old, fun k hk hm => ?_⟩, hS.sub ?_⟩
              · rw [List.length_append]
                simp only [List.length_cons, List.length_nil]
                omega
              · have := hJ.new k hk hm
                rw [List.take_length] at this
                rw [this, cA_split x k out hrx.1 es]
                omega
              · exact .cons_cons _ (.cons_cons _ (.cons_cons _ (.cons_cons _ (.cons _ (.cons _ (.refl _))))))
            · exact hf.elim
        · repeat first | (with_reducible first | refine Wp.seq ?_ | refine Wp.reg ?_ | refine Wp.block ?_ | refine Wp.skip ?_ | refine Wp.ret ?_ | refine Wp.exit ?_ | refine Wp.label ?_ | refine Wp.condG ?_) | simp (disch := omega) only [↓RP, RQ, TS, TR, ↓reduceIte, Nat.reduceEqDiff, Nat.reduceLT, Nat.reduceLeDiff, Int.reduceLT, Int.reduceLE, Int.reduceEq, Int.reduceAdd, Int.reduceSub, Int.reduceNeg, Int.reduceToNat, Nat.reduceAdd, Nat.reduceMul, Nat.reduceSub, reduceCtorEq, RC, Int.cast_ofNat_Int, hn, g1, g5, g8]
          refine ⟨out, ov, hT, .inr ⟨by omega, fun i hi hr => hx i (by omega) ((hW.rdy hi).2 hr), hS.forget⟩⟩
      · have ho := hS.rd 0 rfl
        repeat first | (with_reducible first | refine Wp.seq ?_ | refine Wp.reg ?_ | refine Wp.block ?_ | refine Wp.skip ?_ | refine Wp.ret ?_ | refine Wp.exit ?_ | refine Wp.label ?_ | refine Wp.condG ?_) | simp (disch := omega) only [↓RP, RQ, TS, TR, ↓reduceIte, Nat.reduceEqDiff, Nat.reduceLT, Nat.reduceLeDiff, Int.reduceLT, Int.reduceLE, Int.reduceEq, Int.reduceAdd, Int.reduceSub, Int.reduceNeg, Int.reduceToNat, Nat.reduceAdd, Nat.reduceMul, Nat.reduceSub, reduceCtorEq, RC, Int.cast_ofNat_Int, hn, g1, g5, g8, ho.noTuple]
        exact ⟨out, ov, hT, .inl ⟨by omega, rfl, hS.sub (by simp)⟩⟩
end Go.Ds
