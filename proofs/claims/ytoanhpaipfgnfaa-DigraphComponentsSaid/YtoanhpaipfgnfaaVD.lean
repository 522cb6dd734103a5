/-
  Contracts: slices.Compact at edges.
-/
import Derived.Test.YtoanhpaipfgnfaaVC
import Derived.Test.YtoanhpaipfgnfaaVB
import Derived.ProofKit
import Derived.Deep.SlicePairs
set_option linter.unusedVariables false
set_option linter.unusedSimpArgs false
namespace Go.Ds
open Go.Proofs Go.Plain
variable {H : Heap}

theorem tC25 : clrOk Try.prog 25 = some (1 + 1) := by kernel_rfl
theorem binW_eqlS48 {l : List Value} {K : Value → Heap → Prop} {d : Option Tmp} {ty : TypeId} {pos : String} {af : Array Edge} {g : Option (Nat × Bool)} {p q : Tmp} {t2 : TypeId} {a b c e : Int} (hx : get l p = .agg #[I a, I b]) (hy : get l q = .agg #[I c, I e])
    (h : K (.bool ((a == c) && (b == e))) H) : binW Try.prog ⟨d, .binOp .eql 48 (.tmp p) (.tmp q) t2, ty, pos, af, g⟩ .eql l H (.agg #[I a, I b]) (.agg #[I c, I e]) K := by
  have h1 := binD_eqlS (l := l) (d := d) (ty := ty) (pos := pos) (af := af) (g := g) (t := 48) (t2 := t2) (H := H) hx hy (by kernel_rfl) (eqS48 9998 a b c e)
  have hx' : ev l (.tmp p) = .agg #[I a, I b] := hx
  have hy' : ev l (.tmp q) = .agg #[I c, I e] := hy
  show bindW (opD Try.prog ⟨d, .binOp .eql 48 (.tmp p) (.tmp q) t2, ty, pos, af, g⟩ l H) K
  have h3 : opD Try.prog ⟨d, .binOp .eql 48 (.tmp p) (.tmp q) t2, ty, pos, af, g⟩ l H = some (.bool ((a == c) && (b == e)), H) := by
    simp only [opD, hx', hy', h1]
  rw [h3]
  exact h
theorem beqE (x y : Nat × Nat) : (((x.1 : Int) == (y.1 : Int)) && ((x.2 : Int) == (y.2 : Int))) = decide (x = y) := by
  rw [Bool.eq_iff_iff, Bool.and_eq_true, beq_iff_eq, beq_iff_eq, decide_eq_true_eq]
  constructor
  · rintro ⟨h1, h2⟩
    exact Prod.ext (by omega) (by omega)
  · rintro rfl
    exact ⟨rfl, rfl⟩

/-- The first of each run of equal edges, of the first edges. -/
def dd (es : List (Nat × Nat)) (m : Nat) : List (Nat × Nat) := ((List.range m).filter fun i => decide (i = 0 ∨ es.getD i (0, 0) ≠ es.getD (i - 1) (0, 0))).map fun i => es.getD i (0, 0)
theorem dd_succ (es : List (Nat × Nat)) (m : Nat) : dd es (m + 1) = dd es m ++ (if m = 0 ∨ es.getD m (0, 0) ≠ es.getD (m - 1) (0, 0) then [es.getD m (0, 0)] else []) := by
  unfold dd
  rw [List.range_succ, List.filter_append, List.map_append]
  congr 1
  by_cases h : m = 0 ∨ es.getD m (0, 0) ≠ es.getD (m - 1) (0, 0)
  · rw [if_pos h]
    simp only [List.filter_cons, List.filter_nil, decide_eq_true h, if_true, List.map_cons, List.map_nil]
  · rw [if_neg h]
    simp only [List.filter_cons, List.filter_nil, decide_eq_false h, Bool.false_eq_true, if_false, List.map_nil]
theorem dd_le (es : List (Nat × Nat)) (m : Nat) : (dd es m).length ≤ m := by
  unfold dd
  rw [List.length_map]
  refine Nat.le_trans (List.length_filter_le _ _) ?_
  simp
theorem dd_all (es : List (Nat × Nat)) : ∀ m, m ≤ es.length → (∀ j, 0 < j → j < m → es.getD j (0, 0) ≠ es.getD (j - 1) (0, 0)) → dd es m = es.take m
  | 0, _, _ => by simp [dd]
  | m + 1, hm, h => by
    have ih := dd_all es m (by omega) fun j h1 h2 => h j h1 (by omega)
    rw [dd_succ, ih, take_succ_getD es m (0, 0) (by omega), if_pos]
    by_cases h0 : m = 0
    · exact .inl h0
    · exact .inr (h m (by omega) (by omega))
theorem eg_append (a b : List (Nat × Nat)) : eg (a ++ b) = eg a ++ eg b := List.flatMap_append
theorem eg_drop (a : List (Nat × Nat)) (k : Nat) : (eg a).drop (k * 2) = eg (a.drop k) := flat2_drop _ _ a k

theorem compact_ok {H0 : Base} {os : List Ob} {v : Value} {es : List (Nat × Nat)} (hS : St Try.prog H0 H (⟨v, 2, eg es⟩ :: os)) (hl : es.length < 1000000) :
    Fn Try.prog 54 [v] H fun r H' => ∃ rest : List Value, (∀ H2, RdAt H2 v 2 (eg (dd es es.length) ++ rest) → RdAt H2 r 2 (eg (dd es es.length))) ∧ St Try.prog H0 H' (⟨v, 2, eg (dd es es.length) ++ rest⟩ :: os) := by
  have hv : Sl2 H v _ _ es := hS.rd 0 rfl
  refine Fn.of_wp (fn := Try.f54) rfl rfl (by kernel_rfl) fun l hl => ?_
  have hn : l.length = 61 := by rw [hl]; rfl
  have g0 : get l 0 = v := by rw [hl]; rfl
  clear hl
  repeat first | (with_reducible first | refine Wp.seq ?_ | refine Wp.reg ?_ | refine Wp.block ?_ | refine Wp.skip ?_ | refine Wp.ret ?_ | refine Wp.exit ?_ | refine Wp.label ?_ | refine Wp.condG ?_) | simp (disch := omega) only [↓RP, RQ, TS, TR, ↓reduceIte, Nat.reduceEqDiff, Nat.reduceLT, Nat.reduceLeDiff, Int.reduceLT, Int.reduceLE, Int.reduceEq, Int.reduceAdd, Int.reduceSub, Int.reduceNeg, Int.reduceToNat, Nat.reduceAdd, Nat.reduceMul, Nat.reduceSub, reduceCtorEq, RC, Int.cast_ofNat_Int, hn, g0, hv.len]
  refine condW_split (fun h => ?_) (fun h => ?_)
  · have hd := dd_all es es.length (Nat.le_refl _) fun j h1 h2 => by omega
    rw [List.take_length] at hd
    have hw := hS.rd 0 rfl
    repeat first | (with_reducible first | refine Wp.seq ?_ | refine Wp.reg ?_ | refine Wp.block ?_ | refine Wp.skip ?_ | refine Wp.ret ?_ | refine Wp.exit ?_ | refine Wp.label ?_ | refine Wp.condG ?_) | simp (disch := omega) only [↓RP, RQ, TS, TR, ↓reduceIte, Nat.reduceEqDiff, Nat.reduceLT, Nat.reduceLeDiff, Int.reduceLT, Int.reduceLE, Int.reduceEq, Int.reduceAdd, Int.reduceSub, Int.reduceNeg, Int.reduceToNat, Nat.reduceAdd, Nat.reduceMul, Nat.reduceSub, reduceCtorEq, RC, Int.cast_ofNat_Int, hn, g0, hw.noTuple]
    exact ⟨[], by rw [hd, List.append_nil]; exact fun _ h => h, by rw [hd, List.append_nil]; exact hS⟩
  repeat first | (with_reducible first | refine Wp.seq ?_ | refine Wp.reg ?_ | refine Wp.block ?_ | refine Wp.skip ?_ | refine Wp.ret ?_ | refine Wp.exit ?_ | refine Wp.label ?_ | refine Wp.condG ?_) | simp (disch := omega) only [↓RP, RQ, TS, TR, ↓reduceIte, Nat.reduceEqDiff, Nat.reduceLT, Nat.reduceLeDiff, Int.reduceLT, Int.reduceLE, Int.reduceEq, Int.reduceAdd, Int.reduceSub, Int.reduceNeg, Int.reduceToNat, Nat.reduceAdd, Nat.reduceMul, Nat.reduceSub, reduceCtorEq, RC, Int.cast_ofNat_Int, hn, g0]
  refine Wp.loopN (fun n l H' => H' = H ∧ l.length = 61 ∧ get l 0 = v ∧ ∃ k : Nat, 0 < k ∧ n + k = es.length ∧ get l 3 = I k ∧ ∀ j, 0 < j → j < k → es.getD j (0, 0) ≠ es.getD (j - 1) (0, 0)) (es.length - 1) ?_ ?_
  · repeat first | (with_reducible first | refine Wp.seq ?_ | refine Wp.reg ?_ | refine Wp.block ?_ | refine Wp.skip ?_ | refine Wp.ret ?_ | refine Wp.exit ?_ | refine Wp.label ?_ | refine Wp.condG ?_) | simp (disch := omega) only [↓RP, RQ, TS, TR, ↓reduceIte, Nat.reduceEqDiff, Nat.reduceLT, Nat.reduceLeDiff, Int.reduceLT, Int.reduceLE, Int.reduceEq, Int.reduceAdd, Int.reduceSub, Int.reduceNeg, Int.reduceToNat, Nat.reduceAdd, Nat.reduceMul, Nat.reduceSub, reduceCtorEq, RC, Int.cast_ofNat_Int, hn, g0]
    exact ⟨1, by omega, by omega, rfl, fun j h1 h2 => by omega⟩
  clear hn g0
  rintro n l H' ⟨rfl, hn, g0, k, hk0, hk, g3, hdis⟩
  repeat first | (with_reducible first | refine Wp.seq ?_ | refine Wp.reg ?_ | refine Wp.block ?_ | refine Wp.skip ?_ | refine Wp.ret ?_ | refine Wp.exit ?_ | refine Wp.label ?_ | refine Wp.condG ?_) | simp (disch := omega) only [↓RP, RQ, TS, TR, ↓reduceIte, Nat.reduceEqDiff, Nat.reduceLT, Nat.reduceLeDiff, Int.reduceLT, Int.reduceLE, Int.reduceEq, Int.reduceAdd, Int.reduceSub, Int.reduceNeg, Int.reduceToNat, Nat.reduceAdd, Nat.reduceMul, Nat.reduceSub, reduceCtorEq, RC, Int.cast_ofNat_Int, hn, g0, g3, hv.len]
  refine condW_split (fun h2 => ?_) (fun h2 => ?_)
  · have hkl : k < es.length := by omega
    have hpre : (k : Int) - 1 = ((k - 1 : Nat) : Int) := by omega
    repeat first | (with_reducible first | refine Wp.seq ?_ | refine Wp.reg ?_ | refine Wp.block ?_ | refine Wp.skip ?_ | refine Wp.ret ?_ | refine Wp.exit ?_ | refine Wp.label ?_ | refine Wp.condG ?_) | with_reducible refine Wp.drw hmix (by kernel_rfl) ?_ | simp (disch := omega) only [↓RP, RQ, TS, TR, ↓reduceIte, Nat.reduceEqDiff, Nat.reduceLT, Nat.reduceLeDiff, Int.reduceLT, Int.reduceLE, Int.reduceEq, Int.reduceAdd, Int.reduceSub, Int.reduceNeg, Int.reduceToNat, Nat.reduceAdd, Nat.reduceMul, Nat.reduceSub, reduceCtorEq, RC, Int.cast_ofNat_Int, hn, g0, g3, wrap_fit, hpre, hv.idx, hv.ldA (0, 0)]
    refine binW_eqlS48 (by simp (disch := omega) only [↓RP, RQ, TS, TR, ↓reduceIte, Nat.reduceEqDiff, Nat.reduceLT, Nat.reduceLeDiff, Int.reduceLT, Int.reduceLE, Int.reduceEq, Int.reduceAdd, Int.reduceSub, Int.reduceNeg, Int.reduceToNat, Nat.reduceAdd, Nat.reduceMul, Nat.reduceSub, reduceCtorEq, RC, Int.cast_ofNat_Int, hn]) (by simp (disch := omega) only [↓RP, RQ, TS, TR, ↓reduceIte, Nat.reduceEqDiff, Nat.reduceLT, Nat.reduceLeDiff, Int.reduceLT, Int.reduceLE, Int.reduceEq, Int.reduceAdd, Int.reduceSub, Int.reduceNeg, Int.reduceToNat, Nat.reduceAdd, Nat.reduceMul, Nat.reduceSub, reduceCtorEq, RC, Int.cast_ofNat_Int, hn]) ?_
    rw [beqE]
    repeat first | (with_reducible first | refine Wp.seq ?_ | refine Wp.reg ?_ | refine Wp.block ?_ | refine Wp.skip ?_ | refine Wp.ret ?_ | refine Wp.exit ?_ | refine Wp.label ?_ | refine Wp.condG ?_) | simp (disch := omega) only [↓RP, RQ, TS, TR, ↓reduceIte, Nat.reduceEqDiff, Nat.reduceLT, Nat.reduceLeDiff, Int.reduceLT, Int.reduceLE, Int.reduceEq, Int.reduceAdd, Int.reduceSub, Int.reduceNeg, Int.reduceToNat, Nat.reduceAdd, Nat.reduceMul, Nat.reduceSub, reduceCtorEq, RC, Int.cast_ofNat_Int, hn, g0, g3]
    refine condW_split (fun h3 => ?_) (fun h3 => ?_)
    · have hlen : (eg es).length = es.length * (1 + 1) := eg_length es
      have hpos : 0 < es.length := by omega
      have hdk := dd_all es k (by omega) hdis
      have hdk1 : dd es (k + 1) = es.take k := by rw [dd_succ, hdk, if_neg (by rintro (h4 | h4); omega; exact h4 h3), List.append_nil]
      have hrow : St Try.prog H0 H' (⟨v, 2, eg (dd es (k + 1) ++ es.drop k)⟩ :: os) := by rw [hdk1, List.take_append_drop]; exact hS
      have hdl : (dd es (k + 1)).length = k := by rw [hdk1, List.length_take]; omega
      repeat first | (with_reducible first | refine Wp.seq ?_ | refine Wp.reg ?_ | refine Wp.block ?_ | refine Wp.skip ?_ | refine Wp.ret ?_ | refine Wp.exit ?_ | refine Wp.label ?_ | refine Wp.condG ?_) | simp (disch := omega) only [↓RP, RQ, TS, TR, ↓reduceIte, Nat.reduceEqDiff, Nat.reduceLT, Nat.reduceLeDiff, Int.reduceLT, Int.reduceLE, Int.reduceEq, Int.reduceAdd, Int.reduceSub, Int.reduceNeg, Int.reduceToNat, Nat.reduceAdd, Nat.reduceMul, Nat.reduceSub, reduceCtorEq, RC, Int.cast_ofNat_Int, hn, g0, g3, RdAt.sliceL (size := 1) hv hlen]
      refine Wp.loopN (fun n l H' => l.length = 61 ∧ get l 0 = v ∧ get l 4 = subS v 2 k (es.length - k) ∧ ∃ k2 : Nat, 0 < k2 ∧ n + k + k2 = es.length ∧ get l 5 = I k2 ∧ get l 3 = I (dd es (k + k2)).length ∧ (dd es (k + k2)).length < k + k2 ∧
        St Try.prog H0 H' (⟨v, 2, eg (dd es (k + k2) ++ es.drop (dd es (k + k2)).length)⟩ :: os)) (es.length - k - 1) ?_ ?_
      · repeat first | (with_reducible first | refine Wp.seq ?_ | refine Wp.reg ?_ | refine Wp.block ?_ | refine Wp.skip ?_ | refine Wp.ret ?_ | refine Wp.exit ?_ | refine Wp.label ?_ | refine Wp.condG ?_) | simp (disch := omega) only [↓RP, RQ, TS, TR, ↓reduceIte, Nat.reduceEqDiff, Nat.reduceLT, Nat.reduceLeDiff, Int.reduceLT, Int.reduceLE, Int.reduceEq, Int.reduceAdd, Int.reduceSub, Int.reduceNeg, Int.reduceToNat, Nat.reduceAdd, Nat.reduceMul, Nat.reduceSub, reduceCtorEq, RC, Int.cast_ofNat_Int, hn, g0, g3]
        refine ⟨1, by omega, by omega, rfl, by rw [hdl], by omega, ?_⟩
        rw [hdl]
        exact hrow
      clear hn g0 g3 hS hrow hdk hdk1 hdl hdis hv
      rintro n l H' ⟨hn, g0, g4, k2, hk20, hk2, g5, g3, hlt, hS⟩
      have hsucc := dd_succ es (k + k2)
      generalize hD : dd es (k + k2) = D at g3 hlt hS hsucc
      have hrl : (D ++ es.drop D.length).length = es.length := by rw [List.length_append, List.length_drop]; omega
      have hv : Sl2 H' v _ _ (D ++ es.drop D.length) := hS.rd 0 rfl
      have hat : ∀ j, D.length ≤ j → (D ++ es.drop D.length).getD j (0, 0) = es.getD j (0, 0) := fun j hj => by
        rw [List.getD_eq_getElem?_getD, List.getElem?_append_right hj, List.getElem?_drop, List.getD_eq_getElem?_getD]
        congr 2; omega
      have hsub : Sl2 H' (subS v 2 k (es.length - k)) (fun e : Nat × Nat => I e.1) (fun e => I e.2) ((D ++ es.drop D.length).drop k) := by
        have h1 : RdAt H' (subS v 2 k (es.length - k)) 2 (((eg (D ++ es.drop D.length)).drop (k * 2)).take ((es.length - k) * 2)) := RdAt.sub hv k (es.length - k) (by
          show k * 2 + (es.length - k) * 2 ≤ (eg (D ++ es.drop D.length)).length
          rw [eg_length, hrl]; omega) (by
          intro e
          have h2 : (eg (D ++ es.drop D.length)).length = 0 := by rw [show eg (D ++ es.drop D.length) = [] from e]; rfl
          rw [eg_length, hrl] at h2; omega)
        have h3 : ((eg (D ++ es.drop D.length)).drop (k * 2)).take ((es.length - k) * 2) = eg ((D ++ es.drop D.length).drop k) := by
          rw [eg_drop]
          apply List.take_of_length_le
          rw [eg_length, List.length_drop, hrl]
          exact Nat.le_refl _
        rw [h3] at h1
        exact h1
      have hsl : ((D ++ es.drop D.length).drop k).length = es.length - k := by rw [List.length_drop, hrl]
      have hsat : ∀ j, D.length ≤ k + j → ((D ++ es.drop D.length).drop k).getD j (0, 0) = es.getD (k + j) (0, 0) := fun j hj => by rw [getD_drop]; exact hat _ hj
      have hbd : ((es.length - k : Nat) : Int) = (es.length : Int) - k := by omega
      repeat first | (with_reducible first | refine Wp.seq ?_ | refine Wp.reg ?_ | refine Wp.block ?_ | refine Wp.skip ?_ | refine Wp.ret ?_ | refine Wp.exit ?_ | refine Wp.label ?_ | refine Wp.condG ?_) | simp (disch := omega) only [↓RP, RQ, TS, TR, ↓reduceIte, Nat.reduceEqDiff, Nat.reduceLT, Nat.reduceLeDiff, Int.reduceLT, Int.reduceLE, Int.reduceEq, Int.reduceAdd, Int.reduceSub, Int.reduceNeg, Int.reduceToNat, Nat.reduceAdd, Nat.reduceMul, Nat.reduceSub, reduceCtorEq, RC, Int.cast_ofNat_Int, hn, g0, g3, g4, g5, hsub.len, hsl]
      refine condW_split (fun h4 => ?_) (fun h4 => ?_)
      · have hj : k + k2 < es.length := by omega
        have hpre2 : (k2 : Int) - 1 = ((k2 - 1 : Nat) : Int) := by omega
        have e1 := hsat k2 (by omega)
        have e2 := hsat (k2 - 1) (by omega)
        rw [show k + (k2 - 1) = k + k2 - 1 from by omega] at e2
        repeat first | (with_reducible first | refine Wp.seq ?_ | refine Wp.reg ?_ | refine Wp.block ?_ | refine Wp.skip ?_ | refine Wp.ret ?_ | refine Wp.exit ?_ | refine Wp.label ?_ | refine Wp.condG ?_) | with_reducible refine Wp.drw hmix (by kernel_rfl) ?_ | simp (disch := omega) only [↓RP, RQ, TS, TR, ↓reduceIte, Nat.reduceEqDiff, Nat.reduceLT, Nat.reduceLeDiff, Int.reduceLT, Int.reduceLE, Int.reduceEq, Int.reduceAdd, Int.reduceSub, Int.reduceNeg, Int.reduceToNat, Nat.reduceAdd, Nat.reduceMul, Nat.reduceSub, reduceCtorEq, RC, Int.cast_ofNat_Int, hn, g0, g3, g4, g5, wrap_fit, hpre2, hsub.idx, hsub.ldA (0, 0), e1, e2]
        refine binW_neqS (by simp (disch := omega) only [↓RP, RQ, TS, TR, ↓reduceIte, Nat.reduceEqDiff, Nat.reduceLT, Nat.reduceLeDiff, Int.reduceLT, Int.reduceLE, Int.reduceEq, Int.reduceAdd, Int.reduceSub, Int.reduceNeg, Int.reduceToNat, Nat.reduceAdd, Nat.reduceMul, Nat.reduceSub, reduceCtorEq, RC, Int.cast_ofNat_Int, hn]) (by simp (disch := omega) only [↓RP, RQ, TS, TR, ↓reduceIte, Nat.reduceEqDiff, Nat.reduceLT, Nat.reduceLeDiff, Int.reduceLT, Int.reduceLE, Int.reduceEq, Int.reduceAdd, Int.reduceSub, Int.reduceNeg, Int.reduceToNat, Nat.reduceAdd, Nat.reduceMul, Nat.reduceSub, reduceCtorEq, RC, Int.cast_ofNat_Int, hn]) ?_
        rw [beqE]
        repeat first | (with_reducible first | refine Wp.seq ?_ | refine Wp.reg ?_ | refine Wp.block ?_ | refine Wp.skip ?_ | refine Wp.ret ?_ | refine Wp.exit ?_ | refine Wp.label ?_ | refine Wp.condG ?_) | simp (disch := omega) only [↓RP, RQ, TS, TR, ↓reduceIte, Nat.reduceEqDiff, Nat.reduceLT, Nat.reduceLeDiff, Int.reduceLT, Int.reduceLE, Int.reduceEq, Int.reduceAdd, Int.reduceSub, Int.reduceNeg, Int.reduceToNat, Nat.reduceAdd, Nat.reduceMul, Nat.reduceSub, reduceCtorEq, RC, Int.cast_ofNat_Int, hn, g0, g3, g4, g5]
        by_cases h5 : es.getD (k + k2) (0, 0) = es.getD (k + k2 - 1) (0, 0)
        · rw [decide_eq_true h5, Bool.not_true]
          rw [if_neg (by rintro (h6 | h6); omega; exact h6 h5), List.append_nil] at hsucc
          repeat first | (with_reducible first | refine Wp.seq ?_ | refine Wp.reg ?_ | refine Wp.block ?_ | refine Wp.skip ?_ | refine Wp.ret ?_ | refine Wp.exit ?_ | refine Wp.label ?_ | refine Wp.condG ?_) | simp (disch := omega) only [↓RP, RQ, TS, TR, ↓reduceIte, Nat.reduceEqDiff, Nat.reduceLT, Nat.reduceLeDiff, Int.reduceLT, Int.reduceLE, Int.reduceEq, Int.reduceAdd, Int.reduceSub, Int.reduceNeg, Int.reduceToNat, Nat.reduceAdd, Nat.reduceMul, Nat.reduceSub, reduceCtorEq, RC, Int.cast_ofNat_Int, hn, g0, g3, g4, g5, wrap_fit]
          refine ⟨n - 1, by omega, k2 + 1, by omega, by omega, rfl, ?_⟩
          rw [← Nat.add_assoc, hsucc]
          exact ⟨rfl, by omega, hS⟩
        · rw [decide_eq_false h5, Bool.not_false]
          rw [if_pos (.inr h5)] at hsucc
          repeat first | (with_reducible first | refine Wp.seq ?_ | refine Wp.reg ?_ | refine Wp.block ?_ | refine Wp.skip ?_ | refine Wp.ret ?_ | refine Wp.exit ?_ | refine Wp.label ?_ | refine Wp.condG ?_) | simp (disch := omega) only [↓RP, RQ, TS, TR, ↓reduceIte, Nat.reduceEqDiff, Nat.reduceLT, Nat.reduceLeDiff, Int.reduceLT, Int.reduceLE, Int.reduceEq, Int.reduceAdd, Int.reduceSub, Int.reduceNeg, Int.reduceToNat, Nat.reduceAdd, Nat.reduceMul, Nat.reduceSub, reduceCtorEq, RC, Int.cast_ofNat_Int, hn, g0, g3, g4, g5, hsub.idx, hsub.ldA (0, 0), e1, hv.idx]
          refine hS.eStoreE (size := 1) 0 rfl [_, _] rfl rfl tS48 (by simp) (by rw [eg_length, hrl]; simp; omega) fun H3 hS => ?_
          simp only [List.nil_append, List.cons_append, List.append_nil, List.set_cons_zero, List.set_cons_succ, setMany_cons, setMany_nil, Nat.zero_add, Nat.mul_one, Nat.add_zero] at hS
          repeat first | (with_reducible first | refine Wp.seq ?_ | refine Wp.reg ?_ | refine Wp.block ?_ | refine Wp.skip ?_ | refine Wp.ret ?_ | refine Wp.exit ?_ | refine Wp.label ?_ | refine Wp.condG ?_) | simp (disch := omega) only [↓RP, RQ, TS, TR, ↓reduceIte, Nat.reduceEqDiff, Nat.reduceLT, Nat.reduceLeDiff, Int.reduceLT, Int.reduceLE, Int.reduceEq, Int.reduceAdd, Int.reduceSub, Int.reduceNeg, Int.reduceToNat, Nat.reduceAdd, Nat.reduceMul, Nat.reduceSub, reduceCtorEq, RC, Int.cast_ofNat_Int, hn, g0, g3, g4, g5, wrap_fit]
          refine ⟨n - 1, by omega, k2 + 1, by omega, by omega, rfl, ?_⟩
          rw [← Nat.add_assoc, hsucc]
          refine ⟨by simp, by simp; omega, ?_⟩
          have e3 : eg (D ++ [es.getD (k + k2) (0, 0)] ++ es.drop (D ++ [es.getD (k + k2) (0, 0)]).length) = ((eg (D ++ es.drop D.length)).set (D.length * 2) (I (es.getD (k + k2) (0, 0)).1)).set (D.length * 2 + 1) (I (es.getD (k + k2) (0, 0)).2) := by
            have hx : es.drop D.length = es.getD D.length (0, 0) :: es.drop (D.length + 1) := by
              rw [List.drop_eq_getElem_cons (by omega)]
              congr 1
              simp [List.getD_eq_getElem?_getD, show D.length < es.length from by omega]
            rw [hx, List.length_append, List.length_singleton, eg_append, eg_append, eg_append]
            have e4 : eg (es.getD D.length (0, 0) :: es.drop (D.length + 1)) = I (es.getD D.length (0, 0)).1 :: I (es.getD D.length (0, 0)).2 :: eg (es.drop (D.length + 1)) := rfl
            have e5 : eg [es.getD (k + k2) (0, 0)] = [I (es.getD (k + k2) (0, 0)).1, I (es.getD (k + k2) (0, 0)).2] := rfl
            have e6 : (eg D).length = D.length * 2 := eg_length D
            rw [e4, e5, List.set_append_right _ _ (by omega), List.set_append_right _ _ (by omega), e6, Nat.sub_self, Nat.add_sub_cancel_left]
            simp
          rw [e3]
          exact hS
      · have hke : k + k2 = es.length := by omega
        rw [hke] at hD
        have hcl : (eg (D ++ es.drop D.length)).length = es.length * (1 + 1) := by rw [eg_length, hrl]
        have hDn : D.length ≤ es.length := by omega
        repeat first | (with_reducible first | refine Wp.seq ?_ | refine Wp.reg ?_ | refine Wp.block ?_ | refine Wp.skip ?_ | refine Wp.ret ?_ | refine Wp.exit ?_ | refine Wp.label ?_ | refine Wp.condG ?_) | simp (disch := omega) only [↓RP, RQ, TS, TR, ↓reduceIte, Nat.reduceEqDiff, Nat.reduceLT, Nat.reduceLeDiff, Int.reduceLT, Int.reduceLE, Int.reduceEq, Int.reduceAdd, Int.reduceSub, Int.reduceNeg, Int.reduceToNat, Nat.reduceAdd, Nat.reduceMul, Nat.reduceSub, reduceCtorEq, RC, Int.cast_ofNat_Int, hn, g0, g3, g4, g5, RdAt.sliceL (size := 1) hv hcl]
        refine hS.eClear (size := 1) 0 rfl D.length (es.length - D.length) (by rw [hcl]; omega) (by
          intro e
          have h2 : (eg (D ++ es.drop D.length)).length = 0 := by rw [e]; rfl
          rw [eg_length, hrl] at h2; omega) tC25 fun z H3 hz hS => ?_
        simp only [List.nil_append, List.cons_append, List.append_nil, List.set_cons_zero, List.set_cons_succ, setMany_cons, setMany_nil, Nat.zero_add, Nat.mul_one, Nat.add_zero] at hS
        have e3 : setMany (eg (D ++ es.drop D.length)) (D.length * 2) z = eg D ++ z := by
          rw [eg_append, show D.length * 2 = (eg D).length from (eg_length D).symm, setMany_over z (eg D) (eg (es.drop D.length)) (by rw [eg_length, List.length_drop]; omega)]
          rw [List.drop_of_length_le (by rw [eg_length, List.length_drop]; omega), List.append_nil]
        rw [show D.length * (1 + 1) = D.length * 2 from rfl, e3] at hS
        have hw : RdAt H3 v (1 + 1) (eg D ++ z) := hS.rd 0 rfl
        have hwl : (eg D ++ z).length = es.length * (1 + 1) := by rw [List.length_append, eg_length, hz]; omega
        repeat first | (with_reducible first | refine Wp.seq ?_ | refine Wp.reg ?_ | refine Wp.block ?_ | refine Wp.skip ?_ | refine Wp.ret ?_ | refine Wp.exit ?_ | refine Wp.label ?_ | refine Wp.condG ?_) | simp (disch := omega) only [↓RP, RQ, TS, TR, ↓reduceIte, Nat.reduceEqDiff, Nat.reduceLT, Nat.reduceLeDiff, Int.reduceLT, Int.reduceLE, Int.reduceEq, Int.reduceAdd, Int.reduceSub, Int.reduceNeg, Int.reduceToNat, Nat.reduceAdd, Nat.reduceMul, Nat.reduceSub, reduceCtorEq, RC, Int.cast_ofNat_Int, hn, g0, g3, g4, g5, hw.sliceH hwl]
        refine ⟨z, fun H2 h2 => ?_, by rw [hD]; exact hS⟩
        rw [hD] at h2 ⊢
        have h5 := RdAt.sub h2 0 D.length (by rw [hwl]; omega) (by
          intro e
          rw [e] at hwl
          simp at hwl; omega)
        rw [Nat.zero_mul, List.drop_zero, show D.length * 2 = (eg D).length from (eg_length D).symm, List.take_left' rfl] at h5
        exact h5
    · have hne : es.getD k (0, 0) ≠ es.getD (k - 1) (0, 0) := h3
      repeat first | (with_reducible first | refine Wp.seq ?_ | refine Wp.reg ?_ | refine Wp.block ?_ | refine Wp.skip ?_ | refine Wp.ret ?_ | refine Wp.exit ?_ | refine Wp.label ?_ | refine Wp.condG ?_) | simp (disch := omega) only [↓RP, RQ, TS, TR, ↓reduceIte, Nat.reduceEqDiff, Nat.reduceLT, Nat.reduceLeDiff, Int.reduceLT, Int.reduceLE, Int.reduceEq, Int.reduceAdd, Int.reduceSub, Int.reduceNeg, Int.reduceToNat, Nat.reduceAdd, Nat.reduceMul, Nat.reduceSub, reduceCtorEq, RC, Int.cast_ofNat_Int, hn, g0, g3, wrap_fit]
      refine ⟨n - 1, by omega, k + 1, by omega, by omega, rfl, fun j h4 h5 => ?_⟩
      by_cases e : j = k
      · subst e; exact hne
      · exact hdis j h4 (by omega)
  · have hke : k = es.length := by omega
    subst hke
    have hd := dd_all es es.length (Nat.le_refl _) hdis
    rw [List.take_length] at hd
    have hw := hS.rd 0 rfl
    repeat first | (with_reducible first | refine Wp.seq ?_ | refine Wp.reg ?_ | refine Wp.block ?_ | refine Wp.skip ?_ | refine Wp.ret ?_ | refine Wp.exit ?_ | refine Wp.label ?_ | refine Wp.condG ?_) | simp (disch := omega) only [↓RP, RQ, TS, TR, ↓reduceIte, Nat.reduceEqDiff, Nat.reduceLT, Nat.reduceLeDiff, Int.reduceLT, Int.reduceLE, Int.reduceEq, Int.reduceAdd, Int.reduceSub, Int.reduceNeg, Int.reduceToNat, Nat.reduceAdd, Nat.reduceMul, Nat.reduceSub, reduceCtorEq, RC, Int.cast_ofNat_Int, hn, g0, g3, hw.noTuple]
    exact ⟨[], by rw [hd, List.append_nil]; exact fun _ h => h, by rw [hd, List.append_nil]; exact hS⟩
end Go.Ds
/-
  Contracts: Check, with, for any graph; the law's own check.
-/
namespace Go.Ds
open Go.Proofs Go.Plain
variable {H : Heap}

/-- A slice of edges by any numbers. -/
def EgZ (H : Heap) (v : Value) (es : List (Int × Int)) : Prop := Sl2 H v (fun e => I e.1) (fun e => I e.2) es

def inN (N x : Int) : Bool := decide (0 ≤ x ∧ x < N)
def okE (N : Int) (e : Int × Int) : Bool := inN N e.1 && inN N e.2
/-- The error of a graph. -/
def chk (N : Int) (es : List (Int × Int)) : Int := if N < 0 then 3 else if 200 < N ∨ 1000 < es.length then 4 else if es.all (okE N) = true then 0 else 10

theorem checkZ_ok (N : Int) (v : Value) (es : List (Int × Int)) (hv : EgZ H v es) (he : es.length < 1000000) : Fn Try.prog 35 [.agg #[I N, v]] H fun r H' => r = I (chk N es) ∧ St Try.prog H H' [] := by
  refine Fn.of_wp (fn := Try.f35) rfl rfl (by kernel_rfl) fun l hl => ?_
  have hn : l.length = 39 := by rw [hl]; rfl
  have g0 : get l 0 = .agg #[I N, v] := by rw [hl]; rfl
  clear hl
  repeat first | (with_reducible first | refine Wp.seq ?_ | refine Wp.reg ?_ | refine Wp.block ?_ | refine Wp.skip ?_ | refine Wp.ret ?_ | refine Wp.exit ?_ | refine Wp.label ?_ | refine Wp.condG ?_) | simp (disch := omega) only [↓RP, RQ, TS, TR, ↓reduceIte, Nat.reduceEqDiff, Nat.reduceLT, Nat.reduceLeDiff, Int.reduceLT, Int.reduceLE, Int.reduceEq, Int.reduceAdd, Int.reduceSub, Int.reduceNeg, Int.reduceToNat, Nat.reduceAdd, Nat.reduceMul, Nat.reduceSub, reduceCtorEq, RC, Int.cast_ofNat_Int, hn, g0]
  refine (St.refl _ H).eNew 2 [I N, v] rfl rfl (by simp [RdAt.one hv]; rfl) tS27 fun A H1 hS => ?_
  repeat first | (with_reducible first | refine Wp.seq ?_ | refine Wp.reg ?_ | refine Wp.block ?_ | refine Wp.skip ?_ | refine Wp.ret ?_ | refine Wp.exit ?_ | refine Wp.label ?_ | refine Wp.condG ?_) | simp (disch := omega) only [↓RP, RQ, TS, TR, ↓reduceIte, Nat.reduceEqDiff, Nat.reduceLT, Nat.reduceLeDiff, Int.reduceLT, Int.reduceLE, Int.reduceEq, Int.reduceAdd, Int.reduceSub, Int.reduceNeg, Int.reduceToNat, Nat.reduceAdd, Nat.reduceMul, Nat.reduceSub, reduceCtorEq, RC, Int.cast_ofNat_Int, hn, g0, hS.ld 0 rfl]
  refine condW_split (fun h => ?_) (fun h => ?_)
  · repeat first | (with_reducible first | refine Wp.seq ?_ | refine Wp.reg ?_ | refine Wp.block ?_ | refine Wp.skip ?_ | refine Wp.ret ?_ | refine Wp.exit ?_ | refine Wp.label ?_ | refine Wp.condG ?_) | simp (disch := omega) only [↓RP, RQ, TS, TR, ↓reduceIte, Nat.reduceEqDiff, Nat.reduceLT, Nat.reduceLeDiff, Int.reduceLT, Int.reduceLE, Int.reduceEq, Int.reduceAdd, Int.reduceSub, Int.reduceNeg, Int.reduceToNat, Nat.reduceAdd, Nat.reduceMul, Nat.reduceSub, reduceCtorEq, RC, Int.cast_ofNat_Int, hn, g0]
    exact ⟨by unfold chk; rw [if_pos h], hS.forget⟩
  have hv1 : Sl2 H1 v _ _ es := hS.base hv
  repeat first | (with_reducible first | refine Wp.seq ?_ | refine Wp.reg ?_ | refine Wp.block ?_ | refine Wp.skip ?_ | refine Wp.ret ?_ | refine Wp.exit ?_ | refine Wp.label ?_ | refine Wp.condG ?_) | simp (disch := omega) only [↓RP, RQ, TS, TR, ↓reduceIte, Nat.reduceEqDiff, Nat.reduceLT, Nat.reduceLeDiff, Int.reduceLT, Int.reduceLE, Int.reduceEq, Int.reduceAdd, Int.reduceSub, Int.reduceNeg, Int.reduceToNat, Nat.reduceAdd, Nat.reduceMul, Nat.reduceSub, reduceCtorEq, RC, Int.cast_ofNat_Int, hn, g0, hS.ld 0 rfl]
  refine letG_split' (fun h2 => ?_) (fun h2 => ?_)
  · repeat first | (with_reducible first | refine Wp.seq ?_ | refine Wp.reg ?_ | refine Wp.block ?_ | refine Wp.skip ?_ | refine Wp.ret ?_ | refine Wp.exit ?_ | refine Wp.label ?_ | refine Wp.condG ?_) | simp (disch := omega) only [↓RP, RQ, TS, TR, ↓reduceIte, Nat.reduceEqDiff, Nat.reduceLT, Nat.reduceLeDiff, Int.reduceLT, Int.reduceLE, Int.reduceEq, Int.reduceAdd, Int.reduceSub, Int.reduceNeg, Int.reduceToNat, Nat.reduceAdd, Nat.reduceMul, Nat.reduceSub, reduceCtorEq, RC, Int.cast_ofNat_Int, hn, g0, h2]
    exact ⟨by unfold chk; rw [if_neg h, if_pos (.inl h2)], hS.forget⟩
  repeat first | (with_reducible first | refine Wp.seq ?_ | refine Wp.reg ?_ | refine Wp.block ?_ | refine Wp.skip ?_ | refine Wp.ret ?_ | refine Wp.exit ?_ | refine Wp.label ?_ | refine Wp.condG ?_) | simp (disch := omega) only [↓RP, RQ, TS, TR, ↓reduceIte, Nat.reduceEqDiff, Nat.reduceLT, Nat.reduceLeDiff, Int.reduceLT, Int.reduceLE, Int.reduceEq, Int.reduceAdd, Int.reduceSub, Int.reduceNeg, Int.reduceToNat, Nat.reduceAdd, Nat.reduceMul, Nat.reduceSub, reduceCtorEq, RC, Int.cast_ofNat_Int, hn, g0, hS.ld 0 rfl, hv1.len, h2]
  refine condW_split (fun h3 => ?_) (fun h3 => ?_)
  · repeat first | (with_reducible first | refine Wp.seq ?_ | refine Wp.reg ?_ | refine Wp.block ?_ | refine Wp.skip ?_ | refine Wp.ret ?_ | refine Wp.exit ?_ | refine Wp.label ?_ | refine Wp.condG ?_) | simp (disch := omega) only [↓RP, RQ, TS, TR, ↓reduceIte, Nat.reduceEqDiff, Nat.reduceLT, Nat.reduceLeDiff, Int.reduceLT, Int.reduceLE, Int.reduceEq, Int.reduceAdd, Int.reduceSub, Int.reduceNeg, Int.reduceToNat, Nat.reduceAdd, Nat.reduceMul, Nat.reduceSub, reduceCtorEq, RC, Int.cast_ofNat_Int, hn, g0]
    exact ⟨by unfold chk; rw [if_neg h, if_pos (.inr (by omega))], hS.forget⟩
  repeat first | (with_reducible first | refine Wp.seq ?_ | refine Wp.reg ?_ | refine Wp.block ?_ | refine Wp.skip ?_ | refine Wp.ret ?_ | refine Wp.exit ?_ | refine Wp.label ?_ | refine Wp.condG ?_) | simp (disch := omega) only [↓RP, RQ, TS, TR, ↓reduceIte, Nat.reduceEqDiff, Nat.reduceLT, Nat.reduceLeDiff, Int.reduceLT, Int.reduceLE, Int.reduceEq, Int.reduceAdd, Int.reduceSub, Int.reduceNeg, Int.reduceToNat, Nat.reduceAdd, Nat.reduceMul, Nat.reduceSub, reduceCtorEq, RC, Int.cast_ofNat_Int, hn, g0, hS.ld 0 rfl, hv1.len]
  have hch : chk N es = if es.all (okE N) = true then 0 else 10 := by unfold chk; rw [if_neg h, if_neg (by omega)]
  refine Wp.loopN (fun n l H' => St Try.prog H H' [⟨ptr A 0 2, 0, [I N, v]⟩] ∧ l.length = 39 ∧ get l 1 = ptr A 0 2 ∧ get l 20 = v ∧ get l 21 = I es.length ∧ ∃ i : Nat, n + i = es.length ∧ get l 22 = I i ∧ ∀ j, j < i → okE N (es.getD j (0, 0)) = true) es.length ?_ ?_
  · simp (disch := omega) only [↓RP, RQ, TS, TR, ↓reduceIte, Nat.reduceEqDiff, Nat.reduceLT, Nat.reduceLeDiff, Int.reduceLT, Int.reduceLE, Int.reduceEq, Int.reduceAdd, Int.reduceSub, Int.reduceNeg, Int.reduceToNat, Nat.reduceAdd, Nat.reduceMul, Nat.reduceSub, reduceCtorEq, RC, Int.cast_ofNat_Int, hn]
    exact ⟨hS, 0, rfl, rfl, fun j hj => absurd hj (Nat.not_lt_zero _)⟩
  clear hS hn g0 h h2 h3 hv1
  rintro n l H' ⟨hS, hn, g1, g20, g21, i, hi, g22, hok⟩
  have hv1 : Sl2 H' v _ _ es := hS.base hv
  repeat first | (with_reducible first | refine Wp.seq ?_ | refine Wp.reg ?_ | refine Wp.block ?_ | refine Wp.skip ?_ | refine Wp.ret ?_ | refine Wp.exit ?_ | refine Wp.label ?_ | refine Wp.condG ?_) | simp (disch := omega) only [↓RP, RQ, TS, TR, ↓reduceIte, Nat.reduceEqDiff, Nat.reduceLT, Nat.reduceLeDiff, Int.reduceLT, Int.reduceLE, Int.reduceEq, Int.reduceAdd, Int.reduceSub, Int.reduceNeg, Int.reduceToNat, Nat.reduceAdd, Nat.reduceMul, Nat.reduceSub, reduceCtorEq, RC, Int.cast_ofNat_Int, hn, g1, g20, g21, g22]
  refine condW_split (fun h3 => ?_) (fun h3 => ?_)
  · have hil : i < es.length := by omega
    repeat first | (with_reducible first | refine Wp.seq ?_ | refine Wp.reg ?_ | refine Wp.block ?_ | refine Wp.skip ?_ | refine Wp.ret ?_ | refine Wp.exit ?_ | refine Wp.label ?_ | refine Wp.condG ?_) | simp (disch := omega) only [↓RP, RQ, TS, TR, ↓reduceIte, Nat.reduceEqDiff, Nat.reduceLT, Nat.reduceLeDiff, Int.reduceLT, Int.reduceLE, Int.reduceEq, Int.reduceAdd, Int.reduceSub, Int.reduceNeg, Int.reduceToNat, Nat.reduceAdd, Nat.reduceMul, Nat.reduceSub, reduceCtorEq, RC, Int.cast_ofNat_Int, hn, g1, g20, g21, g22, hv1.idx, hv1.ldA (0, 0)]
    refine hS.eNew 2 [I 0, I 0] rfl rfl rfl tS48 fun B H1 hS => ?_
    repeat first | (with_reducible first | refine Wp.seq ?_ | refine Wp.reg ?_ | refine Wp.block ?_ | refine Wp.skip ?_ | refine Wp.ret ?_ | refine Wp.exit ?_ | refine Wp.label ?_ | refine Wp.condG ?_) | simp (disch := omega) only [↓RP, RQ, TS, TR, ↓reduceIte, Nat.reduceEqDiff, Nat.reduceLT, Nat.reduceLeDiff, Int.reduceLT, Int.reduceLE, Int.reduceEq, Int.reduceAdd, Int.reduceSub, Int.reduceNeg, Int.reduceToNat, Nat.reduceAdd, Nat.reduceMul, Nat.reduceSub, reduceCtorEq, RC, Int.cast_ofNat_Int, hn, g1, g20, g21, g22]
    refine hS.eStore 1 rfl [_, _] rfl rfl tS48 (by simp) fun H2 hS => ?_
    repeat first | (with_reducible first | refine Wp.seq ?_ | refine Wp.reg ?_ | refine Wp.block ?_ | refine Wp.skip ?_ | refine Wp.ret ?_ | refine Wp.exit ?_ | refine Wp.label ?_ | refine Wp.condG ?_) | simp (disch := omega) only [↓RP, RQ, TS, TR, ↓reduceIte, Nat.reduceEqDiff, Nat.reduceLT, Nat.reduceLeDiff, Int.reduceLT, Int.reduceLE, Int.reduceEq, Int.reduceAdd, Int.reduceSub, Int.reduceNeg, Int.reduceToNat, Nat.reduceAdd, Nat.reduceMul, Nat.reduceSub, reduceCtorEq, RC, Int.cast_ofNat_Int, hn, g1, g20, g21, g22, hS.ldA 0 rfl, hS.ld 0 rfl, hS.ld 1 rfl]
    have hbad : okE N (es.getD i (0, 0)) = false → chk N es = 10 := fun hb => by
      rw [hch, if_neg]
      intro ha
      rw [List.all_eq_true] at ha
      have := ha _ (getD_mem (0, 0) hil)
      rw [hb] at this
      cases this
    refine callFW_of (has_ok N _ v (RdAt.one hv1)) ?_
    rintro r H3 ⟨rfl, hS3⟩
    have hS := hS.trans hS3
    cases h1 : inN N (es.getD i (0, 0)).1 with
    | false =>
      have d1 : decide (0 ≤ (es.getD i (0, 0)).1 ∧ (es.getD i (0, 0)).1 < N) = false := h1
      repeat first | (with_reducible first | refine Wp.seq ?_ | refine Wp.reg ?_ | refine Wp.block ?_ | refine Wp.skip ?_ | refine Wp.ret ?_ | refine Wp.exit ?_ | refine Wp.label ?_ | refine Wp.condG ?_) | simp (disch := omega) only [↓RP, RQ, TS, TR, ↓reduceIte, Nat.reduceEqDiff, Nat.reduceLT, Nat.reduceLeDiff, Int.reduceLT, Int.reduceLE, Int.reduceEq, Int.reduceAdd, Int.reduceSub, Int.reduceNeg, Int.reduceToNat, Nat.reduceAdd, Nat.reduceMul, Nat.reduceSub, reduceCtorEq, RC, Int.cast_ofNat_Int, hn, g1, g20, g21, g22, d1]
      exact ⟨by rw [hbad (by unfold okE; rw [h1]; rfl)], hS.forget⟩
    | true =>
      have d1 : decide (0 ≤ (es.getD i (0, 0)).1 ∧ (es.getD i (0, 0)).1 < N) = true := h1
      repeat first | (with_reducible first | refine Wp.seq ?_ | refine Wp.reg ?_ | refine Wp.block ?_ | refine Wp.skip ?_ | refine Wp.ret ?_ | refine Wp.exit ?_ | refine Wp.label ?_ | refine Wp.condG ?_) | simp (disch := omega) only [↓RP, RQ, TS, TR, ↓reduceIte, Nat.reduceEqDiff, Nat.reduceLT, Nat.reduceLeDiff, Int.reduceLT, Int.reduceLE, Int.reduceEq, Int.reduceAdd, Int.reduceSub, Int.reduceNeg, Int.reduceToNat, Nat.reduceAdd, Nat.reduceMul, Nat.reduceSub, reduceCtorEq, RC, Int.cast_ofNat_Int, hn, g1, g20, g21, g22, d1, hS.ldA 0 rfl, hS.ld 0 rfl, hS.ld 1 rfl]
      refine callFW_of (has_ok N _ v (RdAt.one hv1)) ?_
      rintro r H4 ⟨rfl, hS4⟩
      have hS := hS.trans hS4
      cases h2 : inN N (es.getD i (0, 0)).2 with
      | false =>
        have d2 : decide (0 ≤ (es.getD i (0, 0)).2 ∧ (es.getD i (0, 0)).2 < N) = false := h2
        repeat first | (with_reducible first | refine Wp.seq ?_ | refine Wp.reg ?_ | refine Wp.block ?_ | refine Wp.skip ?_ | refine Wp.ret ?_ | refine Wp.exit ?_ | refine Wp.label ?_ | refine Wp.condG ?_) | simp (disch := omega) only [↓RP, RQ, TS, TR, ↓reduceIte, Nat.reduceEqDiff, Nat.reduceLT, Nat.reduceLeDiff, Int.reduceLT, Int.reduceLE, Int.reduceEq, Int.reduceAdd, Int.reduceSub, Int.reduceNeg, Int.reduceToNat, Nat.reduceAdd, Nat.reduceMul, Nat.reduceSub, reduceCtorEq, RC, Int.cast_ofNat_Int, hn, g1, g20, g21, g22, d2]
        exact ⟨by rw [hbad (by unfold okE; rw [h1, h2]; rfl)], hS.forget⟩
      | true =>
        have d2 : decide (0 ≤ (es.getD i (0, 0)).2 ∧ (es.getD i (0, 0)).2 < N) = true := h2
        repeat first | (with_reducible first | refine Wp.seq ?_ | refine Wp.reg ?_ | refine Wp.block ?_ | refine Wp.skip ?_ | refine Wp.ret ?_ | refine Wp.exit ?_ | refine Wp.label ?_ | refine Wp.condG ?_) | simp (disch := omega) only [↓RP, RQ, TS, TR, ↓reduceIte, Nat.reduceEqDiff, Nat.reduceLT, Nat.reduceLeDiff, Int.reduceLT, Int.reduceLE, Int.reduceEq, Int.reduceAdd, Int.reduceSub, Int.reduceNeg, Int.reduceToNat, Nat.reduceAdd, Nat.reduceMul, Nat.reduceSub, reduceCtorEq, RC, Int.cast_ofNat_Int, hn, g1, g20, g21, g22, d2, wrap_fit]
        refine ⟨n - 1, by omega, hS.sub (by simp), i + 1, by omega, rfl, fun j hj => ?_⟩
        by_cases e : j = i
        · subst e; unfold okE; rw [h1, h2]; rfl
        · exact hok j (by omega)
  · repeat first | (with_reducible first | refine Wp.seq ?_ | refine Wp.reg ?_ | refine Wp.block ?_ | refine Wp.skip ?_ | refine Wp.ret ?_ | refine Wp.exit ?_ | refine Wp.label ?_ | refine Wp.condG ?_) | simp (disch := omega) only [↓RP, RQ, TS, TR, ↓reduceIte, Nat.reduceEqDiff, Nat.reduceLT, Nat.reduceLeDiff, Int.reduceLT, Int.reduceLE, Int.reduceEq, Int.reduceAdd, Int.reduceSub, Int.reduceNeg, Int.reduceToNat, Nat.reduceAdd, Nat.reduceMul, Nat.reduceSub, reduceCtorEq, RC, Int.cast_ofNat_Int, hn]
    refine ⟨?_, hS.forget⟩
    rw [hch, if_pos]
    rw [List.all_eq_true]
    intro x hx
    obtain ⟨j, hj, rfl⟩ := List.mem_iff_getElem.1 hx
    have := hok j (by omega)
    rwa [List.getD_eq_getElem?_getD, List.getElem?_eq_getElem hj] at this

/-- What a node that there is not adds. -/
def chk2 (N : Int) (es : List (Int × Int)) (xs : List Int) : Int := if chk N es ≠ 0 then chk N es else if xs.all (inN N) = true then 0 else 10

theorem withZ_ok (N : Int) (v : Value) (es : List (Int × Int)) (hv : EgZ H v es) (he : es.length < 1000000) (w : Value) (xs : List Int) (hw : Sl1 H w (.int .i64) xs) (hx : xs.length < 1000) :
    Fn Try.prog 37 [.agg #[I N, v], w] H fun r H' => r = I (chk2 N es xs) ∧ St Try.prog H H' [] := by
  refine Fn.of_wp (fn := Try.f37) rfl rfl (by kernel_rfl) fun l hl => ?_
  have hn : l.length = 15 := by rw [hl]; rfl
  have g0 : get l 0 = .agg #[I N, v] := by rw [hl]; rfl
  have g1 : get l 1 = w := by rw [hl]; rfl
  clear hl
  repeat first | (with_reducible first | refine Wp.seq ?_ | refine Wp.reg ?_ | refine Wp.block ?_ | refine Wp.skip ?_ | refine Wp.ret ?_ | refine Wp.exit ?_ | refine Wp.label ?_ | refine Wp.condG ?_) | simp (disch := omega) only [↓RP, RQ, TS, TR, ↓reduceIte, Nat.reduceEqDiff, Nat.reduceLT, Nat.reduceLeDiff, Int.reduceLT, Int.reduceLE, Int.reduceEq, Int.reduceAdd, Int.reduceSub, Int.reduceNeg, Int.reduceToNat, Nat.reduceAdd, Nat.reduceMul, Nat.reduceSub, reduceCtorEq, RC, Int.cast_ofNat_Int, hn, g0, g1]
  refine (St.refl _ H).eNew 2 [I N, v] rfl rfl (by simp [RdAt.one hv]; rfl) tS27 fun A H1 hS => ?_
  repeat first | (with_reducible first | refine Wp.seq ?_ | refine Wp.reg ?_ | refine Wp.block ?_ | refine Wp.skip ?_ | refine Wp.ret ?_ | refine Wp.exit ?_ | refine Wp.label ?_ | refine Wp.condG ?_) | simp (disch := omega) only [↓RP, RQ, TS, TR, ↓reduceIte, Nat.reduceEqDiff, Nat.reduceLT, Nat.reduceLeDiff, Int.reduceLT, Int.reduceLE, Int.reduceEq, Int.reduceAdd, Int.reduceSub, Int.reduceNeg, Int.reduceToNat, Nat.reduceAdd, Nat.reduceMul, Nat.reduceSub, reduceCtorEq, RC, Int.cast_ofNat_Int, hn, g0, g1, hS.ldA 0 rfl]
  refine callFW_of (checkZ_ok N v es (hS.base hv) he) ?_
  rintro r H2 ⟨rfl, hS2⟩
  have hS := hS.trans hS2
  repeat first | (with_reducible first | refine Wp.seq ?_ | refine Wp.reg ?_ | refine Wp.block ?_ | refine Wp.skip ?_ | refine Wp.ret ?_ | refine Wp.exit ?_ | refine Wp.label ?_ | refine Wp.condG ?_) | simp (disch := omega) only [↓RP, RQ, TS, TR, ↓reduceIte, Nat.reduceEqDiff, Nat.reduceLT, Nat.reduceLeDiff, Int.reduceLT, Int.reduceLE, Int.reduceEq, Int.reduceAdd, Int.reduceSub, Int.reduceNeg, Int.reduceToNat, Nat.reduceAdd, Nat.reduceMul, Nat.reduceSub, reduceCtorEq, RC, Int.cast_ofNat_Int, hn, g0, g1]
  refine condW_split (fun h => ?_) (fun h => ?_)
  · repeat first | (with_reducible first | refine Wp.seq ?_ | refine Wp.reg ?_ | refine Wp.block ?_ | refine Wp.skip ?_ | refine Wp.ret ?_ | refine Wp.exit ?_ | refine Wp.label ?_ | refine Wp.condG ?_) | simp (disch := omega) only [↓RP, RQ, TS, TR, ↓reduceIte, Nat.reduceEqDiff, Nat.reduceLT, Nat.reduceLeDiff, Int.reduceLT, Int.reduceLE, Int.reduceEq, Int.reduceAdd, Int.reduceSub, Int.reduceNeg, Int.reduceToNat, Nat.reduceAdd, Nat.reduceMul, Nat.reduceSub, reduceCtorEq, RC, Int.cast_ofNat_Int, hn, g0, g1]
    exact ⟨by unfold chk2; rw [if_pos h], hS.forget⟩
  repeat first | (with_reducible first | refine Wp.seq ?_ | refine Wp.reg ?_ | refine Wp.block ?_ | refine Wp.skip ?_ | refine Wp.ret ?_ | refine Wp.exit ?_ | refine Wp.label ?_ | refine Wp.condG ?_) | simp (disch := omega) only [↓RP, RQ, TS, TR, ↓reduceIte, Nat.reduceEqDiff, Nat.reduceLT, Nat.reduceLeDiff, Int.reduceLT, Int.reduceLE, Int.reduceEq, Int.reduceAdd, Int.reduceSub, Int.reduceNeg, Int.reduceToNat, Nat.reduceAdd, Nat.reduceMul, Nat.reduceSub, reduceCtorEq, RC, Int.cast_ofNat_Int, hn, g0, g1, hS.ldA 0 rfl]
  refine callFW_of (containsFunc_ok w _ (fun x => !decide (0 ≤ x ∧ x < N)) xs (hS.base hw) ?_ (by omega)) ?_
  · intro H3 hS3 x hx
    refine callW_fn ((with1_ok N x v (RdAt.one hv) A ?_).mono fun r H4 h => h)
    exact (hS.var 0 rfl).keep hS3.keep
  rintro r H3 ⟨rfl, hS3⟩
  have hS := hS.trans hS3
  have hf : (xs.any fun x : Int => !decide (0 ≤ x ∧ x < N)) = !(xs.all (inN N)) := by
    rw [List.all_eq_not_any_not, Bool.not_not]
    rfl
  have hch : chk2 N es xs = if xs.all (inN N) = true then 0 else 10 := by unfold chk2; rw [if_neg h]
  rw [hf]
  cases hb : xs.all (inN N) with
  | true =>
    rw [hb, if_pos rfl] at hch
    repeat first | (with_reducible first | refine Wp.seq ?_ | refine Wp.reg ?_ | refine Wp.block ?_ | refine Wp.skip ?_ | refine Wp.ret ?_ | refine Wp.exit ?_ | refine Wp.label ?_ | refine Wp.condG ?_) | simp (disch := omega) only [↓RP, RQ, TS, TR, ↓reduceIte, Nat.reduceEqDiff, Nat.reduceLT, Nat.reduceLeDiff, Int.reduceLT, Int.reduceLE, Int.reduceEq, Int.reduceAdd, Int.reduceSub, Int.reduceNeg, Int.reduceToNat, Nat.reduceAdd, Nat.reduceMul, Nat.reduceSub, reduceCtorEq, RC, Int.cast_ofNat_Int, hn, g0, g1]
    exact ⟨by rw [hch], hS.forget⟩
  | false =>
    rw [hb, if_neg (by decide)] at hch
    repeat first | (with_reducible first | refine Wp.seq ?_ | refine Wp.reg ?_ | refine Wp.block ?_ | refine Wp.skip ?_ | refine Wp.ret ?_ | refine Wp.exit ?_ | refine Wp.label ?_ | refine Wp.condG ?_) | simp (disch := omega) only [↓RP, RQ, TS, TR, ↓reduceIte, Nat.reduceEqDiff, Nat.reduceLT, Nat.reduceLeDiff, Int.reduceLT, Int.reduceLE, Int.reduceEq, Int.reduceAdd, Int.reduceSub, Int.reduceNeg, Int.reduceToNat, Nat.reduceAdd, Nat.reduceMul, Nat.reduceSub, reduceCtorEq, RC, Int.cast_ofNat_Int, hn, g0, g1]
    exact ⟨by rw [hch], hS.forget⟩

theorem lawCheck_ok (N : Int) (v : Value) (es : List (Int × Int)) (hv : EgZ H v es) (he : es.length < 1000000) : Fn Try.prog 34 [.agg #[I N, v]] H fun r H' => r = I (chk N es) ∧ St Try.prog H H' [] := by
  refine Fn.of_wp (fn := Try.f34) rfl rfl (by kernel_rfl) fun l hl => ?_
  have hn : l.length = 51 := by rw [hl]; rfl
  have g0 : get l 0 = .agg #[I N, v] := by rw [hl]; rfl
  clear hl
  repeat first | (with_reducible first | refine Wp.seq ?_ | refine Wp.reg ?_ | refine Wp.block ?_ | refine Wp.skip ?_ | refine Wp.ret ?_ | refine Wp.exit ?_ | refine Wp.label ?_ | refine Wp.condG ?_) | simp (disch := omega) only [↓RP, RQ, TS, TR, ↓reduceIte, Nat.reduceEqDiff, Nat.reduceLT, Nat.reduceLeDiff, Int.reduceLT, Int.reduceLE, Int.reduceEq, Int.reduceAdd, Int.reduceSub, Int.reduceNeg, Int.reduceToNat, Nat.reduceAdd, Nat.reduceMul, Nat.reduceSub, reduceCtorEq, RC, Int.cast_ofNat_Int, hn, g0]
  refine (St.refl _ H).eNew 2 [I N, v] rfl rfl (by simp [RdAt.one hv]; rfl) tS27 fun A H1 hS => ?_
  repeat first | (with_reducible first | refine Wp.seq ?_ | refine Wp.reg ?_ | refine Wp.block ?_ | refine Wp.skip ?_ | refine Wp.ret ?_ | refine Wp.exit ?_ | refine Wp.label ?_ | refine Wp.condG ?_) | simp (disch := omega) only [↓RP, RQ, TS, TR, ↓reduceIte, Nat.reduceEqDiff, Nat.reduceLT, Nat.reduceLeDiff, Int.reduceLT, Int.reduceLE, Int.reduceEq, Int.reduceAdd, Int.reduceSub, Int.reduceNeg, Int.reduceToNat, Nat.reduceAdd, Nat.reduceMul, Nat.reduceSub, reduceCtorEq, RC, Int.cast_ofNat_Int, hn, g0, hS.ld 0 rfl]
  refine condW_split (fun h => ?_) (fun h => ?_)
  · repeat first | (with_reducible first | refine Wp.seq ?_ | refine Wp.reg ?_ | refine Wp.block ?_ | refine Wp.skip ?_ | refine Wp.ret ?_ | refine Wp.exit ?_ | refine Wp.label ?_ | refine Wp.condG ?_) | simp (disch := omega) only [↓RP, RQ, TS, TR, ↓reduceIte, Nat.reduceEqDiff, Nat.reduceLT, Nat.reduceLeDiff, Int.reduceLT, Int.reduceLE, Int.reduceEq, Int.reduceAdd, Int.reduceSub, Int.reduceNeg, Int.reduceToNat, Nat.reduceAdd, Nat.reduceMul, Nat.reduceSub, reduceCtorEq, RC, Int.cast_ofNat_Int, hn, g0]
    exact ⟨by unfold chk; rw [if_pos h], hS.forget⟩
  have hv1 : Sl2 H1 v _ _ es := hS.base hv
  repeat first | (with_reducible first | refine Wp.seq ?_ | refine Wp.reg ?_ | refine Wp.block ?_ | refine Wp.skip ?_ | refine Wp.ret ?_ | refine Wp.exit ?_ | refine Wp.label ?_ | refine Wp.condG ?_) | simp (disch := omega) only [↓RP, RQ, TS, TR, ↓reduceIte, Nat.reduceEqDiff, Nat.reduceLT, Nat.reduceLeDiff, Int.reduceLT, Int.reduceLE, Int.reduceEq, Int.reduceAdd, Int.reduceSub, Int.reduceNeg, Int.reduceToNat, Nat.reduceAdd, Nat.reduceMul, Nat.reduceSub, reduceCtorEq, RC, Int.cast_ofNat_Int, hn, g0, hS.ld 0 rfl]
  refine letG_split' (fun h2 => ?_) (fun h2 => ?_)
  · repeat first | (with_reducible first | refine Wp.seq ?_ | refine Wp.reg ?_ | refine Wp.block ?_ | refine Wp.skip ?_ | refine Wp.ret ?_ | refine Wp.exit ?_ | refine Wp.label ?_ | refine Wp.condG ?_) | simp (disch := omega) only [↓RP, RQ, TS, TR, ↓reduceIte, Nat.reduceEqDiff, Nat.reduceLT, Nat.reduceLeDiff, Int.reduceLT, Int.reduceLE, Int.reduceEq, Int.reduceAdd, Int.reduceSub, Int.reduceNeg, Int.reduceToNat, Nat.reduceAdd, Nat.reduceMul, Nat.reduceSub, reduceCtorEq, RC, Int.cast_ofNat_Int, hn, g0, h2]
    exact ⟨by unfold chk; rw [if_neg h, if_pos (.inl h2)], hS.forget⟩
  repeat first | (with_reducible first | refine Wp.seq ?_ | refine Wp.reg ?_ | refine Wp.block ?_ | refine Wp.skip ?_ | refine Wp.ret ?_ | refine Wp.exit ?_ | refine Wp.label ?_ | refine Wp.condG ?_) | simp (disch := omega) only [↓RP, RQ, TS, TR, ↓reduceIte, Nat.reduceEqDiff, Nat.reduceLT, Nat.reduceLeDiff, Int.reduceLT, Int.reduceLE, Int.reduceEq, Int.reduceAdd, Int.reduceSub, Int.reduceNeg, Int.reduceToNat, Nat.reduceAdd, Nat.reduceMul, Nat.reduceSub, reduceCtorEq, RC, Int.cast_ofNat_Int, hn, g0, hS.ld 0 rfl, hv1.len, h2]
  refine condW_split (fun h3 => ?_) (fun h3 => ?_)
  · repeat first | (with_reducible first | refine Wp.seq ?_ | refine Wp.reg ?_ | refine Wp.block ?_ | refine Wp.skip ?_ | refine Wp.ret ?_ | refine Wp.exit ?_ | refine Wp.label ?_ | refine Wp.condG ?_) | simp (disch := omega) only [↓RP, RQ, TS, TR, ↓reduceIte, Nat.reduceEqDiff, Nat.reduceLT, Nat.reduceLeDiff, Int.reduceLT, Int.reduceLE, Int.reduceEq, Int.reduceAdd, Int.reduceSub, Int.reduceNeg, Int.reduceToNat, Nat.reduceAdd, Nat.reduceMul, Nat.reduceSub, reduceCtorEq, RC, Int.cast_ofNat_Int, hn, g0]
    exact ⟨by unfold chk; rw [if_neg h, if_pos (.inr (by omega))], hS.forget⟩
  repeat first | (with_reducible first | refine Wp.seq ?_ | refine Wp.reg ?_ | refine Wp.block ?_ | refine Wp.skip ?_ | refine Wp.ret ?_ | refine Wp.exit ?_ | refine Wp.label ?_ | refine Wp.condG ?_) | simp (disch := omega) only [↓RP, RQ, TS, TR, ↓reduceIte, Nat.reduceEqDiff, Nat.reduceLT, Nat.reduceLeDiff, Int.reduceLT, Int.reduceLE, Int.reduceEq, Int.reduceAdd, Int.reduceSub, Int.reduceNeg, Int.reduceToNat, Nat.reduceAdd, Nat.reduceMul, Nat.reduceSub, reduceCtorEq, RC, Int.cast_ofNat_Int, hn, g0]
  have hch : chk N es = if es.all (okE N) = true then 0 else 10 := by unfold chk; rw [if_neg h, if_neg (by omega)]
  refine Wp.loopN (fun n l H' => St Try.prog H H' [⟨ptr A 0 2, 0, [I N, v]⟩] ∧ l.length = 51 ∧ get l 1 = ptr A 0 2 ∧ ∃ i : Nat, n + i = es.length ∧ get l 3 = I i ∧ ∀ j, j < i → okE N (es.getD j (0, 0)) = true) es.length ?_ ?_
  · simp (disch := omega) only [↓RP, RQ, TS, TR, ↓reduceIte, Nat.reduceEqDiff, Nat.reduceLT, Nat.reduceLeDiff, Int.reduceLT, Int.reduceLE, Int.reduceEq, Int.reduceAdd, Int.reduceSub, Int.reduceNeg, Int.reduceToNat, Nat.reduceAdd, Nat.reduceMul, Nat.reduceSub, reduceCtorEq, RC, Int.cast_ofNat_Int, hn]
    exact ⟨hS, 0, rfl, rfl, fun j hj => absurd hj (Nat.not_lt_zero _)⟩
  clear hS hn g0 h h2 h3 hv1
  rintro n l H' ⟨hS, hn, g1, i, hi, g3, hok⟩
  have hv1 : Sl2 H' v _ _ es := hS.base hv
  repeat first | (with_reducible first | refine Wp.seq ?_ | refine Wp.reg ?_ | refine Wp.block ?_ | refine Wp.skip ?_ | refine Wp.ret ?_ | refine Wp.exit ?_ | refine Wp.label ?_ | refine Wp.condG ?_) | simp (disch := omega) only [↓RP, RQ, TS, TR, ↓reduceIte, Nat.reduceEqDiff, Nat.reduceLT, Nat.reduceLeDiff, Int.reduceLT, Int.reduceLE, Int.reduceEq, Int.reduceAdd, Int.reduceSub, Int.reduceNeg, Int.reduceToNat, Nat.reduceAdd, Nat.reduceMul, Nat.reduceSub, reduceCtorEq, RC, Int.cast_ofNat_Int, hn, g1, g3, hS.ld 0 rfl, hv1.len]
  refine condW_split (fun h3 => ?_) (fun h3 => ?_)
  · have hil : i < es.length := by omega
    repeat first | (with_reducible first | refine Wp.seq ?_ | refine Wp.reg ?_ | refine Wp.block ?_ | refine Wp.skip ?_ | refine Wp.ret ?_ | refine Wp.exit ?_ | refine Wp.label ?_ | refine Wp.condG ?_) | simp (disch := omega) only [↓RP, RQ, TS, TR, ↓reduceIte, Nat.reduceEqDiff, Nat.reduceLT, Nat.reduceLeDiff, Int.reduceLT, Int.reduceLE, Int.reduceEq, Int.reduceAdd, Int.reduceSub, Int.reduceNeg, Int.reduceToNat, Nat.reduceAdd, Nat.reduceMul, Nat.reduceSub, reduceCtorEq, RC, Int.cast_ofNat_Int, hn, g1, g3, hS.ld 0 rfl, hv1.idx, hv1.ldA (0, 0)]
    refine hS.eNew 2 [I 0, I 0] rfl rfl rfl tS48 fun B H1 hS => ?_
    repeat first | (with_reducible first | refine Wp.seq ?_ | refine Wp.reg ?_ | refine Wp.block ?_ | refine Wp.skip ?_ | refine Wp.ret ?_ | refine Wp.exit ?_ | refine Wp.label ?_ | refine Wp.condG ?_) | simp (disch := omega) only [↓RP, RQ, TS, TR, ↓reduceIte, Nat.reduceEqDiff, Nat.reduceLT, Nat.reduceLeDiff, Int.reduceLT, Int.reduceLE, Int.reduceEq, Int.reduceAdd, Int.reduceSub, Int.reduceNeg, Int.reduceToNat, Nat.reduceAdd, Nat.reduceMul, Nat.reduceSub, reduceCtorEq, RC, Int.cast_ofNat_Int, hn, g1, g3]
    refine hS.eStore 1 rfl [_, _] rfl rfl tS48 (by simp) fun H2 hS => ?_
    simp only [List.nil_append, List.cons_append, List.append_nil, List.set_cons_zero, List.set_cons_succ, setMany_cons, setMany_nil, Nat.zero_add, Nat.mul_one, Nat.add_zero] at hS
    have hbad : okE N (es.getD i (0, 0)) = false → chk N es = 10 := fun hb => by
      rw [hch, if_neg]
      intro ha
      rw [List.all_eq_true] at ha
      have := ha _ (getD_mem (0, 0) hil)
      rw [hb] at this
      cases this
    have hgood : okE N (es.getD i (0, 0)) = true → ∀ j, j < i + 1 → okE N (es.getD j (0, 0)) = true := fun hb j hj => by
      by_cases e : j = i
      · subst e; exact hb
      · exact hok j (by omega)
    have hokE : okE N (es.getD i (0, 0)) = (decide (0 ≤ (es.getD i (0, 0)).1 ∧ (es.getD i (0, 0)).1 < N) && decide (0 ≤ (es.getD i (0, 0)).2 ∧ (es.getD i (0, 0)).2 < N)) := rfl
    generalize es.getD i (0, 0) = e at hbad hgood hS hokE ⊢
    by_cases c : (0 ≤ e.1 ∧ e.1 < N) ∧ (0 ≤ e.2 ∧ e.2 < N)
    · have hk : okE N e = true := by rw [hokE, decide_eq_true c.1, decide_eq_true c.2]; rfl
      have d1 : decide (e.1 < 0) = false := decide_eq_false (by omega)
      have d2 : decide (N ≤ e.1) = false := decide_eq_false (by omega)
      have d3 : decide (e.2 < 0) = false := decide_eq_false (by omega)
      have d4 : decide (N ≤ e.2) = false := decide_eq_false (by omega)
      repeat first | (with_reducible first | refine Wp.seq ?_ | refine Wp.reg ?_ | refine Wp.block ?_ | refine Wp.skip ?_ | refine Wp.ret ?_ | refine Wp.exit ?_ | refine Wp.label ?_ | refine Wp.condG ?_) | simp (disch := omega) only [↓RP, RQ, TS, TR, ↓reduceIte, Nat.reduceEqDiff, Nat.reduceLT, Nat.reduceLeDiff, Int.reduceLT, Int.reduceLE, Int.reduceEq, Int.reduceAdd, Int.reduceSub, Int.reduceNeg, Int.reduceToNat, Nat.reduceAdd, Nat.reduceMul, Nat.reduceSub, reduceCtorEq, RC, Int.cast_ofNat_Int, hn, g1, g3, hS.ld 0 rfl, hS.ld 1 rfl, d1, d2, d3, d4, wrap_fit]
      exact ⟨n - 1, by omega, hS.sub (by simp), i + 1, by omega, rfl, hgood hk⟩
    · have hk : okE N e = false := by
        rw [hokE, Bool.and_eq_false_iff, decide_eq_false_iff_not, decide_eq_false_iff_not]
        by_cases c1 : 0 ≤ e.1 ∧ e.1 < N
        · exact .inr fun c2 => c ⟨c1, c2⟩
        · exact .inl c1
      have hb := hbad hk
      by_cases c1 : e.1 < 0
      · repeat first | (with_reducible first | refine Wp.seq ?_ | refine Wp.reg ?_ | refine Wp.block ?_ | refine Wp.skip ?_ | refine Wp.ret ?_ | refine Wp.exit ?_ | refine Wp.label ?_ | refine Wp.condG ?_) | simp (disch := omega) only [↓RP, RQ, TS, TR, ↓reduceIte, Nat.reduceEqDiff, Nat.reduceLT, Nat.reduceLeDiff, Int.reduceLT, Int.reduceLE, Int.reduceEq, Int.reduceAdd, Int.reduceSub, Int.reduceNeg, Int.reduceToNat, Nat.reduceAdd, Nat.reduceMul, Nat.reduceSub, reduceCtorEq, RC, Int.cast_ofNat_Int, hn, g1, g3, hS.ld 0 rfl, hS.ld 1 rfl, decide_eq_true c1]
        exact ⟨by rw [hb], hS.forget⟩
      by_cases c2 : N ≤ e.1
      · repeat first | (with_reducible first | refine Wp.seq ?_ | refine Wp.reg ?_ | refine Wp.block ?_ | refine Wp.skip ?_ | refine Wp.ret ?_ | refine Wp.exit ?_ | refine Wp.label ?_ | refine Wp.condG ?_) | simp (disch := omega) only [↓RP, RQ, TS, TR, ↓reduceIte, Nat.reduceEqDiff, Nat.reduceLT, Nat.reduceLeDiff, Int.reduceLT, Int.reduceLE, Int.reduceEq, Int.reduceAdd, Int.reduceSub, Int.reduceNeg, Int.reduceToNat, Nat.reduceAdd, Nat.reduceMul, Nat.reduceSub, reduceCtorEq, RC, Int.cast_ofNat_Int, hn, g1, g3, hS.ld 0 rfl, hS.ld 1 rfl, decide_eq_false c1, decide_eq_true c2]
        exact ⟨by rw [hb], hS.forget⟩
      by_cases c3 : e.2 < 0
      · repeat first | (with_reducible first | refine Wp.seq ?_ | refine Wp.reg ?_ | refine Wp.block ?_ | refine Wp.skip ?_ | refine Wp.ret ?_ | refine Wp.exit ?_ | refine Wp.label ?_ | refine Wp.condG ?_) | simp (disch := omega) only [↓RP, RQ, TS, TR, ↓reduceIte, Nat.reduceEqDiff, Nat.reduceLT, Nat.reduceLeDiff, Int.reduceLT, Int.reduceLE, Int.reduceEq, Int.reduceAdd, Int.reduceSub, Int.reduceNeg, Int.reduceToNat, Nat.reduceAdd, Nat.reduceMul, Nat.reduceSub, reduceCtorEq, RC, Int.cast_ofNat_Int, hn, g1, g3, hS.ld 0 rfl, hS.ld 1 rfl, decide_eq_false c1, decide_eq_false c2, decide_eq_true c3]
        exact ⟨by rw [hb], hS.forget⟩
      have c4 : N ≤ e.2 := by omega
      repeat first | (with_reducible first | refine Wp.seq ?_ | refine Wp.reg ?_ | refine Wp.block ?_ | refine Wp.skip ?_ | refine Wp.ret ?_ | refine Wp.exit ?_ | refine Wp.label ?_ | refine Wp.condG ?_) | simp (disch := omega) only [↓RP, RQ, TS, TR, ↓reduceIte, Nat.reduceEqDiff, Nat.reduceLT, Nat.reduceLeDiff, Int.reduceLT, Int.reduceLE, Int.reduceEq, Int.reduceAdd, Int.reduceSub, Int.reduceNeg, Int.reduceToNat, Nat.reduceAdd, Nat.reduceMul, Nat.reduceSub, reduceCtorEq, RC, Int.cast_ofNat_Int, hn, g1, g3, hS.ld 0 rfl, hS.ld 1 rfl, decide_eq_false c1, decide_eq_false c2, decide_eq_false c3, decide_eq_true c4]
      exact ⟨by rw [hb], hS.forget⟩
  · repeat first | (with_reducible first | refine Wp.seq ?_ | refine Wp.reg ?_ | refine Wp.block ?_ | refine Wp.skip ?_ | refine Wp.ret ?_ | refine Wp.exit ?_ | refine Wp.label ?_ | refine Wp.condG ?_) | simp (disch := omega) only [↓RP, RQ, TS, TR, ↓reduceIte, Nat.reduceEqDiff, Nat.reduceLT, Nat.reduceLeDiff, Int.reduceLT, Int.reduceLE, Int.reduceEq, Int.reduceAdd, Int.reduceSub, Int.reduceNeg, Int.reduceToNat, Nat.reduceAdd, Nat.reduceMul, Nat.reduceSub, reduceCtorEq, RC, Int.cast_ofNat_Int, hn]
    refine ⟨?_, hS.forget⟩
    rw [hch, if_pos]
    rw [List.all_eq_true]
    intro x hx
    obtain ⟨j, hj, rfl⟩ := List.mem_iff_getElem.1 hx
    have := hok j (by omega)
    rwa [List.getD_eq_getElem?_getD, List.getElem?_eq_getElem hj] at this
end Go.Ds
/-
  Contracts: what the functions say of a graph with an error.
-/
namespace Go.Ds
open Go.Proofs Go.Plain
variable {H : Heap}

theorem tR33 (l : List Value) (H : Heap) : resultsD Try.prog Try.f33 l H = (ldW (aggP Try.prog 27) (sizeP Try.prog 27) H (get l 2)).bind fun v => if (noTuple v && (noTuple (get l 3) && true)) = true then some (.tuple #[v, get l 3]) else none := by
  show (Option.bind (Option.bind (loadD Try.prog H 27 (get l 2)) fun v => some [v, get l 3]) fun vs => _) = _
  rw [loadD_eq]
  cases ldW _ _ H (get l 2) <;> rfl

theorem cycleZ_ok (N : Int) (v : Value) (es : List (Int × Int)) (hv : EgZ H v es) (he : es.length < 1000000) (hc : chk N es ≠ 0) : Fn Try.prog 19 [.agg #[I N, v]] H fun r H' => r = .tuple #[.slice none 0 0, .bool false, I (chk N es)] ∧ St Try.prog H H' [] := by
  refine Fn.of_wp (fn := Try.f19) rfl rfl (by kernel_rfl) fun l hl => ?_
  have hn : l.length = 53 := by rw [hl]; rfl
  have g0 : get l 0 = .agg #[I N, v] := by rw [hl]; rfl
  clear hl
  repeat first | (with_reducible first | refine Wp.seq ?_ | refine Wp.reg ?_ | refine Wp.block ?_ | refine Wp.skip ?_ | refine Wp.ret ?_ | refine Wp.exit ?_ | refine Wp.label ?_ | refine Wp.condG ?_) | simp (disch := omega) only [↓RP, RQ, TS, TR, ↓reduceIte, Nat.reduceEqDiff, Nat.reduceLT, Nat.reduceLeDiff, Int.reduceLT, Int.reduceLE, Int.reduceEq, Int.reduceAdd, Int.reduceSub, Int.reduceNeg, Int.reduceToNat, Nat.reduceAdd, Nat.reduceMul, Nat.reduceSub, reduceCtorEq, RC, Int.cast_ofNat_Int, hn, g0]
  refine (St.refl _ H).eNew 2 [I N, v] rfl rfl (by simp [RdAt.one hv]; rfl) tS27 fun A H1 hS => ?_
  repeat first | (with_reducible first | refine Wp.seq ?_ | refine Wp.reg ?_ | refine Wp.block ?_ | refine Wp.skip ?_ | refine Wp.ret ?_ | refine Wp.exit ?_ | refine Wp.label ?_ | refine Wp.condG ?_) | simp (disch := omega) only [↓RP, RQ, TS, TR, ↓reduceIte, Nat.reduceEqDiff, Nat.reduceLT, Nat.reduceLeDiff, Int.reduceLT, Int.reduceLE, Int.reduceEq, Int.reduceAdd, Int.reduceSub, Int.reduceNeg, Int.reduceToNat, Nat.reduceAdd, Nat.reduceMul, Nat.reduceSub, reduceCtorEq, RC, Int.cast_ofNat_Int, hn, g0, hS.ldA 0 rfl]
  refine callFW_of (checkZ_ok N v es (hS.base hv) he) ?_
  rintro r H2 ⟨rfl, hS2⟩
  have hS := hS.trans hS2
  generalize chk N es = e at hc ⊢
  repeat first | (with_reducible first | refine Wp.seq ?_ | refine Wp.reg ?_ | refine Wp.block ?_ | refine Wp.skip ?_ | refine Wp.ret ?_ | refine Wp.exit ?_ | refine Wp.label ?_ | refine Wp.condG ?_) | simp (disch := omega) only [↓RP, RQ, TS, TR, ↓reduceIte, Nat.reduceEqDiff, Nat.reduceLT, Nat.reduceLeDiff, Int.reduceLT, Int.reduceLE, Int.reduceEq, Int.reduceAdd, Int.reduceSub, Int.reduceNeg, Int.reduceToNat, Nat.reduceAdd, Nat.reduceMul, Nat.reduceSub, reduceCtorEq, RC, Int.cast_ofNat_Int, hn, g0]
  refine condW_split (fun h => ?_) (fun h => absurd hc h)
  repeat first | (with_reducible first | refine Wp.seq ?_ | refine Wp.reg ?_ | refine Wp.block ?_ | refine Wp.skip ?_ | refine Wp.ret ?_ | refine Wp.exit ?_ | refine Wp.label ?_ | refine Wp.condG ?_) | simp (disch := omega) only [↓RP, RQ, TS, TR, ↓reduceIte, Nat.reduceEqDiff, Nat.reduceLT, Nat.reduceLeDiff, Int.reduceLT, Int.reduceLE, Int.reduceEq, Int.reduceAdd, Int.reduceSub, Int.reduceNeg, Int.reduceToNat, Nat.reduceAdd, Nat.reduceMul, Nat.reduceSub, reduceCtorEq, RC, Int.cast_ofNat_Int, hn, g0]
  exact hS.forget

theorem componentsZ_ok (N : Int) (v : Value) (es : List (Int × Int)) (hv : EgZ H v es) (he : es.length < 1000000) (hc : chk N es ≠ 0) : Fn Try.prog 32 [.agg #[I N, v]] H fun r H' => r = .tuple #[.slice none 0 0, I (chk N es)] ∧ St Try.prog H H' [] := by
  refine Fn.of_wp (fn := Try.f32) rfl rfl (by kernel_rfl) fun l hl => ?_
  have hn : l.length = 18 := by rw [hl]; rfl
  have g0 : get l 0 = .agg #[I N, v] := by rw [hl]; rfl
  clear hl
  repeat first | (with_reducible first | refine Wp.seq ?_ | refine Wp.reg ?_ | refine Wp.block ?_ | refine Wp.skip ?_ | refine Wp.ret ?_ | refine Wp.exit ?_ | refine Wp.label ?_ | refine Wp.condG ?_) | simp (disch := omega) only [↓RP, RQ, TS, TR, ↓reduceIte, Nat.reduceEqDiff, Nat.reduceLT, Nat.reduceLeDiff, Int.reduceLT, Int.reduceLE, Int.reduceEq, Int.reduceAdd, Int.reduceSub, Int.reduceNeg, Int.reduceToNat, Nat.reduceAdd, Nat.reduceMul, Nat.reduceSub, reduceCtorEq, RC, Int.cast_ofNat_Int, hn, g0]
  refine (St.refl _ H).eNew 2 [I N, v] rfl rfl (by simp [RdAt.one hv]; rfl) tS27 fun A H1 hS => ?_
  repeat first | (with_reducible first | refine Wp.seq ?_ | refine Wp.reg ?_ | refine Wp.block ?_ | refine Wp.skip ?_ | refine Wp.ret ?_ | refine Wp.exit ?_ | refine Wp.label ?_ | refine Wp.condG ?_) | simp (disch := omega) only [↓RP, RQ, TS, TR, ↓reduceIte, Nat.reduceEqDiff, Nat.reduceLT, Nat.reduceLeDiff, Int.reduceLT, Int.reduceLE, Int.reduceEq, Int.reduceAdd, Int.reduceSub, Int.reduceNeg, Int.reduceToNat, Nat.reduceAdd, Nat.reduceMul, Nat.reduceSub, reduceCtorEq, RC, Int.cast_ofNat_Int, hn, g0, hS.ldA 0 rfl]
  refine callFW_of (checkZ_ok N v es (hS.base hv) he) ?_
  rintro r H2 ⟨rfl, hS2⟩
  have hS := hS.trans hS2
  generalize chk N es = e at hc ⊢
  repeat first | (with_reducible first | refine Wp.seq ?_ | refine Wp.reg ?_ | refine Wp.block ?_ | refine Wp.skip ?_ | refine Wp.ret ?_ | refine Wp.exit ?_ | refine Wp.label ?_ | refine Wp.condG ?_) | simp (disch := omega) only [↓RP, RQ, TS, TR, ↓reduceIte, Nat.reduceEqDiff, Nat.reduceLT, Nat.reduceLeDiff, Int.reduceLT, Int.reduceLE, Int.reduceEq, Int.reduceAdd, Int.reduceSub, Int.reduceNeg, Int.reduceToNat, Nat.reduceAdd, Nat.reduceMul, Nat.reduceSub, reduceCtorEq, RC, Int.cast_ofNat_Int, hn, g0]
  refine condW_split (fun h => ?_) (fun h => absurd hc h)
  repeat first | (with_reducible first | refine Wp.seq ?_ | refine Wp.reg ?_ | refine Wp.block ?_ | refine Wp.skip ?_ | refine Wp.ret ?_ | refine Wp.exit ?_ | refine Wp.label ?_ | refine Wp.condG ?_) | simp (disch := omega) only [↓RP, RQ, TS, TR, ↓reduceIte, Nat.reduceEqDiff, Nat.reduceLT, Nat.reduceLeDiff, Int.reduceLT, Int.reduceLE, Int.reduceEq, Int.reduceAdd, Int.reduceSub, Int.reduceNeg, Int.reduceToNat, Nat.reduceAdd, Nat.reduceMul, Nat.reduceSub, reduceCtorEq, RC, Int.cast_ofNat_Int, hn, g0]
  exact hS.forget

theorem orderZ_ok (N : Int) (v : Value) (es : List (Int × Int)) (hv : EgZ H v es) (he : es.length < 1000000) (hc : chk N es ≠ 0) : Fn Try.prog 21 [.agg #[I N, v]] H fun r H' => r = .tuple #[.slice none 0 0, I (chk N es)] ∧ St Try.prog H H' [] := by
  refine Fn.of_wp (fn := Try.f21) rfl rfl (by kernel_rfl) fun l hl => ?_
  have hn : l.length = 66 := by rw [hl]; rfl
  have g0 : get l 0 = .agg #[I N, v] := by rw [hl]; rfl
  clear hl
  repeat first | (with_reducible first | refine Wp.seq ?_ | refine Wp.reg ?_ | refine Wp.block ?_ | refine Wp.skip ?_ | refine Wp.ret ?_ | refine Wp.exit ?_ | refine Wp.label ?_ | refine Wp.condG ?_) | simp (disch := omega) only [↓RP, RQ, TS, TR, ↓reduceIte, Nat.reduceEqDiff, Nat.reduceLT, Nat.reduceLeDiff, Int.reduceLT, Int.reduceLE, Int.reduceEq, Int.reduceAdd, Int.reduceSub, Int.reduceNeg, Int.reduceToNat, Nat.reduceAdd, Nat.reduceMul, Nat.reduceSub, reduceCtorEq, RC, Int.cast_ofNat_Int, hn, g0]
  refine (St.refl _ H).eNew 2 [I N, v] rfl rfl (by simp [RdAt.one hv]; rfl) tS27 fun A H1 hS => ?_
  repeat first | (with_reducible first | refine Wp.seq ?_ | refine Wp.reg ?_ | refine Wp.block ?_ | refine Wp.skip ?_ | refine Wp.ret ?_ | refine Wp.exit ?_ | refine Wp.label ?_ | refine Wp.condG ?_) | simp (disch := omega) only [↓RP, RQ, TS, TR, ↓reduceIte, Nat.reduceEqDiff, Nat.reduceLT, Nat.reduceLeDiff, Int.reduceLT, Int.reduceLE, Int.reduceEq, Int.reduceAdd, Int.reduceSub, Int.reduceNeg, Int.reduceToNat, Nat.reduceAdd, Nat.reduceMul, Nat.reduceSub, reduceCtorEq, RC, Int.cast_ofNat_Int, hn, g0, hS.ldA 0 rfl]
  refine callFW_of (checkZ_ok N v es (hS.base hv) he) ?_
  rintro r H2 ⟨rfl, hS2⟩
  have hS := hS.trans hS2
  generalize chk N es = e at hc ⊢
  repeat first | (with_reducible first | refine Wp.seq ?_ | refine Wp.reg ?_ | refine Wp.block ?_ | refine Wp.skip ?_ | refine Wp.ret ?_ | refine Wp.exit ?_ | refine Wp.label ?_ | refine Wp.condG ?_) | simp (disch := omega) only [↓RP, RQ, TS, TR, ↓reduceIte, Nat.reduceEqDiff, Nat.reduceLT, Nat.reduceLeDiff, Int.reduceLT, Int.reduceLE, Int.reduceEq, Int.reduceAdd, Int.reduceSub, Int.reduceNeg, Int.reduceToNat, Nat.reduceAdd, Nat.reduceMul, Nat.reduceSub, reduceCtorEq, RC, Int.cast_ofNat_Int, hn, g0]
  refine condW_split (fun h => ?_) (fun h => absurd hc h)
  repeat first | (with_reducible first | refine Wp.seq ?_ | refine Wp.reg ?_ | refine Wp.block ?_ | refine Wp.skip ?_ | refine Wp.ret ?_ | refine Wp.exit ?_ | refine Wp.label ?_ | refine Wp.condG ?_) | simp (disch := omega) only [↓RP, RQ, TS, TR, ↓reduceIte, Nat.reduceEqDiff, Nat.reduceLT, Nat.reduceLeDiff, Int.reduceLT, Int.reduceLE, Int.reduceEq, Int.reduceAdd, Int.reduceSub, Int.reduceNeg, Int.reduceToNat, Nat.reduceAdd, Nat.reduceMul, Nat.reduceSub, reduceCtorEq, RC, Int.cast_ofNat_Int, hn, g0]
  exact hS.forget

theorem condenseZ_ok (N : Int) (v : Value) (es : List (Int × Int)) (hv : EgZ H v es) (he : es.length < 1000000) (hc : chk N es ≠ 0) : Fn Try.prog 33 [.agg #[I N, v]] H fun r H' => r = .tuple #[.agg #[I 0, .slice none 0 0], I (chk N es)] ∧ St Try.prog H H' [] := by
  refine Fn.of_wp (fn := Try.f33) rfl rfl (by kernel_rfl) fun l hl => ?_
  have hn : l.length = 58 := by rw [hl]; rfl
  have g0 : get l 0 = .agg #[I N, v] := by rw [hl]; rfl
  clear hl
  repeat first | (with_reducible first | refine Wp.seq ?_ | refine Wp.reg ?_ | refine Wp.block ?_ | refine Wp.skip ?_ | refine Wp.ret ?_ | refine Wp.exit ?_ | refine Wp.label ?_ | refine Wp.condG ?_) | simp (disch := omega) only [↓RP, RQ, TS, TR, ↓reduceIte, Nat.reduceEqDiff, Nat.reduceLT, Nat.reduceLeDiff, Int.reduceLT, Int.reduceLE, Int.reduceEq, Int.reduceAdd, Int.reduceSub, Int.reduceNeg, Int.reduceToNat, Nat.reduceAdd, Nat.reduceMul, Nat.reduceSub, reduceCtorEq, RC, Int.cast_ofNat_Int, hn, g0]
  refine (St.refl _ H).eNew 2 [I N, v] rfl rfl (by simp [RdAt.one hv]; rfl) tS27 fun A H1 hS => ?_
  repeat first | (with_reducible first | refine Wp.seq ?_ | refine Wp.reg ?_ | refine Wp.block ?_ | refine Wp.skip ?_ | refine Wp.ret ?_ | refine Wp.exit ?_ | refine Wp.label ?_ | refine Wp.condG ?_) | simp (disch := omega) only [↓RP, RQ, TS, TR, ↓reduceIte, Nat.reduceEqDiff, Nat.reduceLT, Nat.reduceLeDiff, Int.reduceLT, Int.reduceLE, Int.reduceEq, Int.reduceAdd, Int.reduceSub, Int.reduceNeg, Int.reduceToNat, Nat.reduceAdd, Nat.reduceMul, Nat.reduceSub, reduceCtorEq, RC, Int.cast_ofNat_Int, hn, g0]
  refine hS.eNew 2 [I 0, .slice none 0 0] rfl rfl rfl tS27 fun R H2 hS => ?_
  repeat first | (with_reducible first | refine Wp.seq ?_ | refine Wp.reg ?_ | refine Wp.block ?_ | refine Wp.skip ?_ | refine Wp.ret ?_ | refine Wp.exit ?_ | refine Wp.label ?_ | refine Wp.condG ?_) | simp (disch := omega) only [↓RP, RQ, TS, TR, ↓reduceIte, Nat.reduceEqDiff, Nat.reduceLT, Nat.reduceLeDiff, Int.reduceLT, Int.reduceLE, Int.reduceEq, Int.reduceAdd, Int.reduceSub, Int.reduceNeg, Int.reduceToNat, Nat.reduceAdd, Nat.reduceMul, Nat.reduceSub, reduceCtorEq, RC, Int.cast_ofNat_Int, hn, g0, hS.ldA 0 rfl]
  refine callFW_of (checkZ_ok N v es (hS.base hv) he) ?_
  rintro r H3 ⟨rfl, hS2⟩
  have hS := hS.trans hS2
  simp only [List.nil_append, List.cons_append, List.append_nil, List.set_cons_zero, List.set_cons_succ, setMany_cons, setMany_nil, Nat.zero_add, Nat.mul_one, Nat.add_zero] at hS
  generalize chk N es = e at hc ⊢
  repeat first | (with_reducible first | refine Wp.seq ?_ | refine Wp.reg ?_ | refine Wp.block ?_ | refine Wp.skip ?_ | refine Wp.ret ?_ | refine Wp.exit ?_ | refine Wp.label ?_ | refine Wp.condG ?_) | simp (disch := omega) only [↓RP, RQ, TS, TR, ↓reduceIte, Nat.reduceEqDiff, Nat.reduceLT, Nat.reduceLeDiff, Int.reduceLT, Int.reduceLE, Int.reduceEq, Int.reduceAdd, Int.reduceSub, Int.reduceNeg, Int.reduceToNat, Nat.reduceAdd, Nat.reduceMul, Nat.reduceSub, reduceCtorEq, RC, Int.cast_ofNat_Int, hn, g0]
  refine condW_split (fun h => ?_) (fun h => absurd hc h)
  repeat first | (with_reducible first | refine Wp.seq ?_ | refine Wp.reg ?_ | refine Wp.block ?_ | refine Wp.skip ?_ | refine Wp.ret ?_ | refine Wp.exit ?_ | refine Wp.label ?_ | refine Wp.condG ?_) | simp (disch := omega) only [↓RP, RQ, TS, TR, ↓reduceIte, Nat.reduceEqDiff, Nat.reduceLT, Nat.reduceLeDiff, Int.reduceLT, Int.reduceLE, Int.reduceEq, Int.reduceAdd, Int.reduceSub, Int.reduceNeg, Int.reduceToNat, Nat.reduceAdd, Nat.reduceMul, Nat.reduceSub, reduceCtorEq, RC, Int.cast_ofNat_Int, hn, g0, tB27n]
  refine hS.eStore 1 rfl [I 0, .slice none 0 0] rfl rfl tS27 (by simp) fun H5 hS => ?_
  simp only [List.nil_append, List.cons_append, List.append_nil, List.set_cons_zero, List.set_cons_succ, setMany_cons, setMany_nil, Nat.zero_add, Nat.mul_one, Nat.add_zero] at hS
  repeat first | (with_reducible first | refine Wp.seq ?_ | refine Wp.reg ?_ | refine Wp.block ?_ | refine Wp.skip ?_ | refine Wp.ret ?_ | refine Wp.exit ?_ | refine Wp.label ?_ | refine Wp.condG ?_) | simp (disch := omega) only [↓RP, RQ, TS, TR, ↓reduceIte, Nat.reduceEqDiff, Nat.reduceLT, Nat.reduceLeDiff, Int.reduceLT, Int.reduceLE, Int.reduceEq, Int.reduceAdd, Int.reduceSub, Int.reduceNeg, Int.reduceToNat, Nat.reduceAdd, Nat.reduceMul, Nat.reduceSub, reduceCtorEq, RC, Int.cast_ofNat_Int, hn, g0, tR33, hS.ldA 1 rfl]
  exact hS.forget

theorem reverseZ_ok (N : Int) (v : Value) (es : List (Int × Int)) (hv : EgZ H v es) (he : es.length < 1000000) (hc : chk N es ≠ 0) : Fn Try.prog 28 [.agg #[I N, v]] H fun r H' => r = .tuple #[.agg #[I 0, .slice none 0 0], I (chk N es)] ∧ St Try.prog H H' [] := by
  refine Fn.of_wp (fn := Try.f28) rfl rfl (by kernel_rfl) fun l hl => ?_
  have hn : l.length = 13 := by rw [hl]; rfl
  have g0 : get l 0 = .agg #[I N, v] := by rw [hl]; rfl
  clear hl
  repeat first | (with_reducible first | refine Wp.seq ?_ | refine Wp.reg ?_ | refine Wp.block ?_ | refine Wp.skip ?_ | refine Wp.ret ?_ | refine Wp.exit ?_ | refine Wp.label ?_ | refine Wp.condG ?_) | simp (disch := omega) only [↓RP, RQ, TS, TR, ↓reduceIte, Nat.reduceEqDiff, Nat.reduceLT, Nat.reduceLeDiff, Int.reduceLT, Int.reduceLE, Int.reduceEq, Int.reduceAdd, Int.reduceSub, Int.reduceNeg, Int.reduceToNat, Nat.reduceAdd, Nat.reduceMul, Nat.reduceSub, reduceCtorEq, RC, Int.cast_ofNat_Int, hn, g0]
  refine (St.refl _ H).eNew 2 [I N, v] rfl rfl (by simp [RdAt.one hv]; rfl) tS27 fun A H1 hS => ?_
  repeat first | (with_reducible first | refine Wp.seq ?_ | refine Wp.reg ?_ | refine Wp.block ?_ | refine Wp.skip ?_ | refine Wp.ret ?_ | refine Wp.exit ?_ | refine Wp.label ?_ | refine Wp.condG ?_) | simp (disch := omega) only [↓RP, RQ, TS, TR, ↓reduceIte, Nat.reduceEqDiff, Nat.reduceLT, Nat.reduceLeDiff, Int.reduceLT, Int.reduceLE, Int.reduceEq, Int.reduceAdd, Int.reduceSub, Int.reduceNeg, Int.reduceToNat, Nat.reduceAdd, Nat.reduceMul, Nat.reduceSub, reduceCtorEq, RC, Int.cast_ofNat_Int, hn, g0]
  refine hS.eNew 2 [I 0, .slice none 0 0] rfl rfl rfl tS27 fun R H2 hS => ?_
  repeat first | (with_reducible first | refine Wp.seq ?_ | refine Wp.reg ?_ | refine Wp.block ?_ | refine Wp.skip ?_ | refine Wp.ret ?_ | refine Wp.exit ?_ | refine Wp.label ?_ | refine Wp.condG ?_) | simp (disch := omega) only [↓RP, RQ, TS, TR, ↓reduceIte, Nat.reduceEqDiff, Nat.reduceLT, Nat.reduceLeDiff, Int.reduceLT, Int.reduceLE, Int.reduceEq, Int.reduceAdd, Int.reduceSub, Int.reduceNeg, Int.reduceToNat, Nat.reduceAdd, Nat.reduceMul, Nat.reduceSub, reduceCtorEq, RC, Int.cast_ofNat_Int, hn, g0, hS.ldA 0 rfl]
  refine callFW_of (checkZ_ok N v es (hS.base hv) he) ?_
  rintro r H3 ⟨rfl, hS2⟩
  have hS := hS.trans hS2
  simp only [List.nil_append, List.cons_append, List.append_nil, List.set_cons_zero, List.set_cons_succ, setMany_cons, setMany_nil, Nat.zero_add, Nat.mul_one, Nat.add_zero] at hS
  generalize chk N es = e at hc ⊢
  repeat first | (with_reducible first | refine Wp.seq ?_ | refine Wp.reg ?_ | refine Wp.block ?_ | refine Wp.skip ?_ | refine Wp.ret ?_ | refine Wp.exit ?_ | refine Wp.label ?_ | refine Wp.condG ?_) | simp (disch := omega) only [↓RP, RQ, TS, TR, ↓reduceIte, Nat.reduceEqDiff, Nat.reduceLT, Nat.reduceLeDiff, Int.reduceLT, Int.reduceLE, Int.reduceEq, Int.reduceAdd, Int.reduceSub, Int.reduceNeg, Int.reduceToNat, Nat.reduceAdd, Nat.reduceMul, Nat.reduceSub, reduceCtorEq, RC, Int.cast_ofNat_Int, hn, g0]
  refine condW_split (fun h => ?_) (fun h => absurd hc h)
  repeat first | (with_reducible first | refine Wp.seq ?_ | refine Wp.reg ?_ | refine Wp.block ?_ | refine Wp.skip ?_ | refine Wp.ret ?_ | refine Wp.exit ?_ | refine Wp.label ?_ | refine Wp.condG ?_) | simp (disch := omega) only [↓RP, RQ, TS, TR, ↓reduceIte, Nat.reduceEqDiff, Nat.reduceLT, Nat.reduceLeDiff, Int.reduceLT, Int.reduceLE, Int.reduceEq, Int.reduceAdd, Int.reduceSub, Int.reduceNeg, Int.reduceToNat, Nat.reduceAdd, Nat.reduceMul, Nat.reduceSub, reduceCtorEq, RC, Int.cast_ofNat_Int, hn, g0, tB27n]
  refine hS.eStore 1 rfl [I 0, .slice none 0 0] rfl rfl tS27 (by simp) fun H5 hS => ?_
  simp only [List.nil_append, List.cons_append, List.append_nil, List.set_cons_zero, List.set_cons_succ, setMany_cons, setMany_nil, Nat.zero_add, Nat.mul_one, Nat.add_zero] at hS
  repeat first | (with_reducible first | refine Wp.seq ?_ | refine Wp.reg ?_ | refine Wp.block ?_ | refine Wp.skip ?_ | refine Wp.ret ?_ | refine Wp.exit ?_ | refine Wp.label ?_ | refine Wp.condG ?_) | simp (disch := omega) only [↓RP, RQ, TS, TR, ↓reduceIte, Nat.reduceEqDiff, Nat.reduceLT, Nat.reduceLeDiff, Int.reduceLT, Int.reduceLE, Int.reduceEq, Int.reduceAdd, Int.reduceSub, Int.reduceNeg, Int.reduceToNat, Nat.reduceAdd, Nat.reduceMul, Nat.reduceSub, reduceCtorEq, RC, Int.cast_ofNat_Int, hn, g0, tR28, hS.ldA 1 rfl]
  exact hS.forget

theorem closureZ_ok (N : Int) (v : Value) (es : List (Int × Int)) (hv : EgZ H v es) (he : es.length < 1000000) (hc : chk N es ≠ 0) : Fn Try.prog 27 [.agg #[I N, v]] H fun r H' => r = .tuple #[.agg #[I 0, .slice none 0 0], I (chk N es)] ∧ St Try.prog H H' [] := by
  refine Fn.of_wp (fn := Try.f27) rfl rfl (by kernel_rfl) fun l hl => ?_
  have hn : l.length = 87 := by rw [hl]; rfl
  have g0 : get l 0 = .agg #[I N, v] := by rw [hl]; rfl
  clear hl
  repeat first | (with_reducible first | refine Wp.seq ?_ | refine Wp.reg ?_ | refine Wp.block ?_ | refine Wp.skip ?_ | refine Wp.ret ?_ | refine Wp.exit ?_ | refine Wp.label ?_ | refine Wp.condG ?_) | simp (disch := omega) only [↓RP, RQ, TS, TR, ↓reduceIte, Nat.reduceEqDiff, Nat.reduceLT, Nat.reduceLeDiff, Int.reduceLT, Int.reduceLE, Int.reduceEq, Int.reduceAdd, Int.reduceSub, Int.reduceNeg, Int.reduceToNat, Nat.reduceAdd, Nat.reduceMul, Nat.reduceSub, reduceCtorEq, RC, Int.cast_ofNat_Int, hn, g0]
  refine (St.refl _ H).eNew 2 [I N, v] rfl rfl (by simp [RdAt.one hv]; rfl) tS27 fun A H1 hS => ?_
  repeat first | (with_reducible first | refine Wp.seq ?_ | refine Wp.reg ?_ | refine Wp.block ?_ | refine Wp.skip ?_ | refine Wp.ret ?_ | refine Wp.exit ?_ | refine Wp.label ?_ | refine Wp.condG ?_) | simp (disch := omega) only [↓RP, RQ, TS, TR, ↓reduceIte, Nat.reduceEqDiff, Nat.reduceLT, Nat.reduceLeDiff, Int.reduceLT, Int.reduceLE, Int.reduceEq, Int.reduceAdd, Int.reduceSub, Int.reduceNeg, Int.reduceToNat, Nat.reduceAdd, Nat.reduceMul, Nat.reduceSub, reduceCtorEq, RC, Int.cast_ofNat_Int, hn, g0]
  refine hS.eNew 2 [I 0, .slice none 0 0] rfl rfl rfl tS27 fun R H2 hS => ?_
  repeat first | (with_reducible first | refine Wp.seq ?_ | refine Wp.reg ?_ | refine Wp.block ?_ | refine Wp.skip ?_ | refine Wp.ret ?_ | refine Wp.exit ?_ | refine Wp.label ?_ | refine Wp.condG ?_) | simp (disch := omega) only [↓RP, RQ, TS, TR, ↓reduceIte, Nat.reduceEqDiff, Nat.reduceLT, Nat.reduceLeDiff, Int.reduceLT, Int.reduceLE, Int.reduceEq, Int.reduceAdd, Int.reduceSub, Int.reduceNeg, Int.reduceToNat, Nat.reduceAdd, Nat.reduceMul, Nat.reduceSub, reduceCtorEq, RC, Int.cast_ofNat_Int, hn, g0, hS.ldA 0 rfl]
  refine callFW_of (checkZ_ok N v es (hS.base hv) he) ?_
  rintro r H3 ⟨rfl, hS2⟩
  have hS := hS.trans hS2
  simp only [List.nil_append, List.cons_append, List.append_nil, List.set_cons_zero, List.set_cons_succ, setMany_cons, setMany_nil, Nat.zero_add, Nat.mul_one, Nat.add_zero] at hS
  generalize chk N es = e at hc ⊢
  repeat first | (with_reducible first | refine Wp.seq ?_ | refine Wp.reg ?_ | refine Wp.block ?_ | refine Wp.skip ?_ | refine Wp.ret ?_ | refine Wp.exit ?_ | refine Wp.label ?_ | refine Wp.condG ?_) | simp (disch := omega) only [↓RP, RQ, TS, TR, ↓reduceIte, Nat.reduceEqDiff, Nat.reduceLT, Nat.reduceLeDiff, Int.reduceLT, Int.reduceLE, Int.reduceEq, Int.reduceAdd, Int.reduceSub, Int.reduceNeg, Int.reduceToNat, Nat.reduceAdd, Nat.reduceMul, Nat.reduceSub, reduceCtorEq, RC, Int.cast_ofNat_Int, hn, g0]
  refine condW_split (fun h => ?_) (fun h => absurd hc h)
  repeat first | (with_reducible first | refine Wp.seq ?_ | refine Wp.reg ?_ | refine Wp.block ?_ | refine Wp.skip ?_ | refine Wp.ret ?_ | refine Wp.exit ?_ | refine Wp.label ?_ | refine Wp.condG ?_) | simp (disch := omega) only [↓RP, RQ, TS, TR, ↓reduceIte, Nat.reduceEqDiff, Nat.reduceLT, Nat.reduceLeDiff, Int.reduceLT, Int.reduceLE, Int.reduceEq, Int.reduceAdd, Int.reduceSub, Int.reduceNeg, Int.reduceToNat, Nat.reduceAdd, Nat.reduceMul, Nat.reduceSub, reduceCtorEq, RC, Int.cast_ofNat_Int, hn, g0, tB27n]
  refine hS.eStore 1 rfl [I 0, .slice none 0 0] rfl rfl tS27 (by simp) fun H5 hS => ?_
  simp only [List.nil_append, List.cons_append, List.append_nil, List.set_cons_zero, List.set_cons_succ, setMany_cons, setMany_nil, Nat.zero_add, Nat.mul_one, Nat.add_zero] at hS
  repeat first | (with_reducible first | refine Wp.seq ?_ | refine Wp.reg ?_ | refine Wp.block ?_ | refine Wp.skip ?_ | refine Wp.ret ?_ | refine Wp.exit ?_ | refine Wp.label ?_ | refine Wp.condG ?_) | simp (disch := omega) only [↓RP, RQ, TS, TR, ↓reduceIte, Nat.reduceEqDiff, Nat.reduceLT, Nat.reduceLeDiff, Int.reduceLT, Int.reduceLE, Int.reduceEq, Int.reduceAdd, Int.reduceSub, Int.reduceNeg, Int.reduceToNat, Nat.reduceAdd, Nat.reduceMul, Nat.reduceSub, reduceCtorEq, RC, Int.cast_ofNat_Int, hn, g0, tR27, hS.ldA 1 rfl]
  exact hS.forget

theorem longestZ_ok (N : Int) (v : Value) (es : List (Int × Int)) (hv : EgZ H v es) (he : es.length < 1000000) (hc : chk N es ≠ 0) : Fn Try.prog 22 [.agg #[I N, v]] H fun r H' => r = .tuple #[.slice none 0 0, I (chk N es)] ∧ St Try.prog H H' [] := by
  refine Fn.of_wp (fn := Try.f22) rfl rfl (by kernel_rfl) fun l hl => ?_
  have hn : l.length = 53 := by rw [hl]; rfl
  have g0 : get l 0 = .agg #[I N, v] := by rw [hl]; rfl
  clear hl
  repeat first | (with_reducible first | refine Wp.seq ?_ | refine Wp.reg ?_ | refine Wp.block ?_ | refine Wp.skip ?_ | refine Wp.ret ?_ | refine Wp.exit ?_ | refine Wp.label ?_ | refine Wp.condG ?_) | simp (disch := omega) only [↓RP, RQ, TS, TR, ↓reduceIte, Nat.reduceEqDiff, Nat.reduceLT, Nat.reduceLeDiff, Int.reduceLT, Int.reduceLE, Int.reduceEq, Int.reduceAdd, Int.reduceSub, Int.reduceNeg, Int.reduceToNat, Nat.reduceAdd, Nat.reduceMul, Nat.reduceSub, reduceCtorEq, RC, Int.cast_ofNat_Int, hn, g0]
  refine (St.refl _ H).eNew 2 [I N, v] rfl rfl (by simp [RdAt.one hv]; rfl) tS27 fun A H1 hS => ?_
  repeat first | (with_reducible first | refine Wp.seq ?_ | refine Wp.reg ?_ | refine Wp.block ?_ | refine Wp.skip ?_ | refine Wp.ret ?_ | refine Wp.exit ?_ | refine Wp.label ?_ | refine Wp.condG ?_) | simp (disch := omega) only [↓RP, RQ, TS, TR, ↓reduceIte, Nat.reduceEqDiff, Nat.reduceLT, Nat.reduceLeDiff, Int.reduceLT, Int.reduceLE, Int.reduceEq, Int.reduceAdd, Int.reduceSub, Int.reduceNeg, Int.reduceToNat, Nat.reduceAdd, Nat.reduceMul, Nat.reduceSub, reduceCtorEq, RC, Int.cast_ofNat_Int, hn, g0, hS.ldA 0 rfl]
  refine callFW_of (orderZ_ok N v es (hS.base hv) he hc) ?_
  rintro r H2 ⟨rfl, hS2⟩
  have hS := hS.trans hS2
  generalize chk N es = e at hc ⊢
  repeat first | (with_reducible first | refine Wp.seq ?_ | refine Wp.reg ?_ | refine Wp.block ?_ | refine Wp.skip ?_ | refine Wp.ret ?_ | refine Wp.exit ?_ | refine Wp.label ?_ | refine Wp.condG ?_) | simp (disch := omega) only [↓RP, RQ, TS, TR, ↓reduceIte, Nat.reduceEqDiff, Nat.reduceLT, Nat.reduceLeDiff, Int.reduceLT, Int.reduceLE, Int.reduceEq, Int.reduceAdd, Int.reduceSub, Int.reduceNeg, Int.reduceToNat, Nat.reduceAdd, Nat.reduceMul, Nat.reduceSub, reduceCtorEq, RC, Int.cast_ofNat_Int, hn, g0]
  refine condW_split (fun h => ?_) (fun h => absurd hc h)
  repeat first | (with_reducible first | refine Wp.seq ?_ | refine Wp.reg ?_ | refine Wp.block ?_ | refine Wp.skip ?_ | refine Wp.ret ?_ | refine Wp.exit ?_ | refine Wp.label ?_ | refine Wp.condG ?_) | simp (disch := omega) only [↓RP, RQ, TS, TR, ↓reduceIte, Nat.reduceEqDiff, Nat.reduceLT, Nat.reduceLeDiff, Int.reduceLT, Int.reduceLE, Int.reduceEq, Int.reduceAdd, Int.reduceSub, Int.reduceNeg, Int.reduceToNat, Nat.reduceAdd, Nat.reduceMul, Nat.reduceSub, reduceCtorEq, RC, Int.cast_ofNat_Int, hn, g0]
  exact hS.forget

theorem neededZ_ok (N : Int) (v : Value) (es : List (Int × Int)) (hv : EgZ H v es) (he : es.length < 1000000) (hc : chk N es ≠ 0) : Fn Try.prog 29 [.agg #[I N, v]] H fun r H' => r = .tuple #[.slice none 0 0, I (chk N es)] ∧ St Try.prog H H' [] := by
  refine Fn.of_wp (fn := Try.f29) rfl rfl (by kernel_rfl) fun l hl => ?_
  have hn : l.length = 78 := by rw [hl]; rfl
  have g0 : get l 0 = .agg #[I N, v] := by rw [hl]; rfl
  clear hl
  repeat first | (with_reducible first | refine Wp.seq ?_ | refine Wp.reg ?_ | refine Wp.block ?_ | refine Wp.skip ?_ | refine Wp.ret ?_ | refine Wp.exit ?_ | refine Wp.label ?_ | refine Wp.condG ?_) | simp (disch := omega) only [↓RP, RQ, TS, TR, ↓reduceIte, Nat.reduceEqDiff, Nat.reduceLT, Nat.reduceLeDiff, Int.reduceLT, Int.reduceLE, Int.reduceEq, Int.reduceAdd, Int.reduceSub, Int.reduceNeg, Int.reduceToNat, Nat.reduceAdd, Nat.reduceMul, Nat.reduceSub, reduceCtorEq, RC, Int.cast_ofNat_Int, hn, g0]
  refine (St.refl _ H).eNew 2 [I N, v] rfl rfl (by simp [RdAt.one hv]; rfl) tS27 fun A H1 hS => ?_
  repeat first | (with_reducible first | refine Wp.seq ?_ | refine Wp.reg ?_ | refine Wp.block ?_ | refine Wp.skip ?_ | refine Wp.ret ?_ | refine Wp.exit ?_ | refine Wp.label ?_ | refine Wp.condG ?_) | simp (disch := omega) only [↓RP, RQ, TS, TR, ↓reduceIte, Nat.reduceEqDiff, Nat.reduceLT, Nat.reduceLeDiff, Int.reduceLT, Int.reduceLE, Int.reduceEq, Int.reduceAdd, Int.reduceSub, Int.reduceNeg, Int.reduceToNat, Nat.reduceAdd, Nat.reduceMul, Nat.reduceSub, reduceCtorEq, RC, Int.cast_ofNat_Int, hn, g0, hS.ldA 0 rfl]
  refine callFW_of (orderZ_ok N v es (hS.base hv) he hc) ?_
  rintro r H2 ⟨rfl, hS2⟩
  have hS := hS.trans hS2
  generalize chk N es = e at hc ⊢
  repeat first | (with_reducible first | refine Wp.seq ?_ | refine Wp.reg ?_ | refine Wp.block ?_ | refine Wp.skip ?_ | refine Wp.ret ?_ | refine Wp.exit ?_ | refine Wp.label ?_ | refine Wp.condG ?_) | simp (disch := omega) only [↓RP, RQ, TS, TR, ↓reduceIte, Nat.reduceEqDiff, Nat.reduceLT, Nat.reduceLeDiff, Int.reduceLT, Int.reduceLE, Int.reduceEq, Int.reduceAdd, Int.reduceSub, Int.reduceNeg, Int.reduceToNat, Nat.reduceAdd, Nat.reduceMul, Nat.reduceSub, reduceCtorEq, RC, Int.cast_ofNat_Int, hn, g0]
  refine condW_split (fun h => ?_) (fun h => absurd hc h)
  repeat first | (with_reducible first | refine Wp.seq ?_ | refine Wp.reg ?_ | refine Wp.block ?_ | refine Wp.skip ?_ | refine Wp.ret ?_ | refine Wp.exit ?_ | refine Wp.label ?_ | refine Wp.condG ?_) | simp (disch := omega) only [↓RP, RQ, TS, TR, ↓reduceIte, Nat.reduceEqDiff, Nat.reduceLT, Nat.reduceLeDiff, Int.reduceLT, Int.reduceLE, Int.reduceEq, Int.reduceAdd, Int.reduceSub, Int.reduceNeg, Int.reduceToNat, Nat.reduceAdd, Nat.reduceMul, Nat.reduceSub, reduceCtorEq, RC, Int.cast_ofNat_Int, hn, g0]
  exact hS.forget

theorem distanceZ_ok (N : Int) (v : Value) (es : List (Int × Int)) (hv : EgZ H v es) (he : es.length < 1000000) (x : Int) (hc : chk2 N es [x] ≠ 0) : Fn Try.prog 26 [.agg #[I N, v], I x] H fun r H' => r = .tuple #[.slice none 0 0, I (chk2 N es [x])] ∧ St Try.prog H H' [] := by
  refine Fn.of_wp (fn := Try.f26) rfl rfl (by kernel_rfl) fun l hl => ?_
  have hn : l.length = 17 := by rw [hl]; rfl
  have g0 : get l 0 = .agg #[I N, v] := by rw [hl]; rfl
  have g1 : get l 1 = I x := by rw [hl]; rfl
  clear hl
  repeat first | (with_reducible first | refine Wp.seq ?_ | refine Wp.reg ?_ | refine Wp.block ?_ | refine Wp.skip ?_ | refine Wp.ret ?_ | refine Wp.exit ?_ | refine Wp.label ?_ | refine Wp.condG ?_) | simp (disch := omega) only [↓RP, RQ, TS, TR, ↓reduceIte, Nat.reduceEqDiff, Nat.reduceLT, Nat.reduceLeDiff, Int.reduceLT, Int.reduceLE, Int.reduceEq, Int.reduceAdd, Int.reduceSub, Int.reduceNeg, Int.reduceToNat, Nat.reduceAdd, Nat.reduceMul, Nat.reduceSub, reduceCtorEq, RC, Int.cast_ofNat_Int, hn, g0, g1]
  refine (St.refl _ H).eNew 2 [I N, v] rfl rfl (by simp [RdAt.one hv]; rfl) tS27 fun A H1 hS => ?_
  repeat first | (with_reducible first | refine Wp.seq ?_ | refine Wp.reg ?_ | refine Wp.block ?_ | refine Wp.skip ?_ | refine Wp.ret ?_ | refine Wp.exit ?_ | refine Wp.label ?_ | refine Wp.condG ?_) | simp (disch := omega) only [↓RP, RQ, TS, TR, ↓reduceIte, Nat.reduceEqDiff, Nat.reduceLT, Nat.reduceLeDiff, Int.reduceLT, Int.reduceLE, Int.reduceEq, Int.reduceAdd, Int.reduceSub, Int.reduceNeg, Int.reduceToNat, Nat.reduceAdd, Nat.reduceMul, Nat.reduceSub, reduceCtorEq, RC, Int.cast_ofNat_Int, hn, g0, g1, hS.ldA 0 rfl]
  refine hS.eSlice [I x] tP29 tF29 rfl rfl (by simp [Value.cells]) rfl rfl (by decide) (by decide) fun w H2 hS => ?_
  repeat first | (with_reducible first | refine Wp.seq ?_ | refine Wp.reg ?_ | refine Wp.block ?_ | refine Wp.skip ?_ | refine Wp.ret ?_ | refine Wp.exit ?_ | refine Wp.label ?_ | refine Wp.condG ?_) | simp (disch := omega) only [↓RP, RQ, TS, TR, ↓reduceIte, Nat.reduceEqDiff, Nat.reduceLT, Nat.reduceLeDiff, Int.reduceLT, Int.reduceLE, Int.reduceEq, Int.reduceAdd, Int.reduceSub, Int.reduceNeg, Int.reduceToNat, Nat.reduceAdd, Nat.reduceMul, Nat.reduceSub, reduceCtorEq, RC, Int.cast_ofNat_Int, hn, g0, g1]
  refine callFW_of (withZ_ok N v es (hS.base hv) he w [x] (hS.rd 1 rfl) (by simp)) ?_
  rintro r H3 ⟨rfl, hS2⟩
  have hS := hS.trans hS2
  generalize chk2 N es [x] = e at hc ⊢
  repeat first | (with_reducible first | refine Wp.seq ?_ | refine Wp.reg ?_ | refine Wp.block ?_ | refine Wp.skip ?_ | refine Wp.ret ?_ | refine Wp.exit ?_ | refine Wp.label ?_ | refine Wp.condG ?_) | simp (disch := omega) only [↓RP, RQ, TS, TR, ↓reduceIte, Nat.reduceEqDiff, Nat.reduceLT, Nat.reduceLeDiff, Int.reduceLT, Int.reduceLE, Int.reduceEq, Int.reduceAdd, Int.reduceSub, Int.reduceNeg, Int.reduceToNat, Nat.reduceAdd, Nat.reduceMul, Nat.reduceSub, reduceCtorEq, RC, Int.cast_ofNat_Int, hn, g0, g1]
  refine condW_split (fun h => ?_) (fun h => absurd hc h)
  repeat first | (with_reducible first | refine Wp.seq ?_ | refine Wp.reg ?_ | refine Wp.block ?_ | refine Wp.skip ?_ | refine Wp.ret ?_ | refine Wp.exit ?_ | refine Wp.label ?_ | refine Wp.condG ?_) | simp (disch := omega) only [↓RP, RQ, TS, TR, ↓reduceIte, Nat.reduceEqDiff, Nat.reduceLT, Nat.reduceLeDiff, Int.reduceLT, Int.reduceLE, Int.reduceEq, Int.reduceAdd, Int.reduceSub, Int.reduceNeg, Int.reduceToNat, Nat.reduceAdd, Nat.reduceMul, Nat.reduceSub, reduceCtorEq, RC, Int.cast_ofNat_Int, hn, g0, g1]
  exact hS.forget

theorem pathZ_ok (N : Int) (v : Value) (es : List (Int × Int)) (hv : EgZ H v es) (he : es.length < 1000000) (x y : Int) (hc : chk2 N es [x, y] ≠ 0) : Fn Try.prog 14 [.agg #[I N, v], I x, I y] H fun r H' => r = .tuple #[.slice none 0 0, .bool false, I (chk2 N es [x, y])] ∧ St Try.prog H H' [] := by
  refine Fn.of_wp (fn := Try.f14) rfl rfl (by kernel_rfl) fun l hl => ?_
  have hn : l.length = 27 := by rw [hl]; rfl
  have g0 : get l 0 = .agg #[I N, v] := by rw [hl]; rfl
  have g1 : get l 1 = I x := by rw [hl]; rfl
  have g2 : get l 2 = I y := by rw [hl]; rfl
  clear hl
  repeat first | (with_reducible first | refine Wp.seq ?_ | refine Wp.reg ?_ | refine Wp.block ?_ | refine Wp.skip ?_ | refine Wp.ret ?_ | refine Wp.exit ?_ | refine Wp.label ?_ | refine Wp.condG ?_) | simp (disch := omega) only [↓RP, RQ, TS, TR, ↓reduceIte, Nat.reduceEqDiff, Nat.reduceLT, Nat.reduceLeDiff, Int.reduceLT, Int.reduceLE, Int.reduceEq, Int.reduceAdd, Int.reduceSub, Int.reduceNeg, Int.reduceToNat, Nat.reduceAdd, Nat.reduceMul, Nat.reduceSub, reduceCtorEq, RC, Int.cast_ofNat_Int, hn, g0, g1, g2]
  refine (St.refl _ H).eNew 2 [I N, v] rfl rfl (by simp [RdAt.one hv]; rfl) tS27 fun A H1 hS => ?_
  repeat first | (with_reducible first | refine Wp.seq ?_ | refine Wp.reg ?_ | refine Wp.block ?_ | refine Wp.skip ?_ | refine Wp.ret ?_ | refine Wp.exit ?_ | refine Wp.label ?_ | refine Wp.condG ?_) | simp (disch := omega) only [↓RP, RQ, TS, TR, ↓reduceIte, Nat.reduceEqDiff, Nat.reduceLT, Nat.reduceLeDiff, Int.reduceLT, Int.reduceLE, Int.reduceEq, Int.reduceAdd, Int.reduceSub, Int.reduceNeg, Int.reduceToNat, Nat.reduceAdd, Nat.reduceMul, Nat.reduceSub, reduceCtorEq, RC, Int.cast_ofNat_Int, hn, g0, g1, g2, hS.ldA 0 rfl]
  refine hS.eSlice [I x, I y] tP29 tF29 rfl rfl (by simp [Value.cells]) rfl rfl (by decide) (by decide) fun w H2 hS => ?_
  repeat first | (with_reducible first | refine Wp.seq ?_ | refine Wp.reg ?_ | refine Wp.block ?_ | refine Wp.skip ?_ | refine Wp.ret ?_ | refine Wp.exit ?_ | refine Wp.label ?_ | refine Wp.condG ?_) | simp (disch := omega) only [↓RP, RQ, TS, TR, ↓reduceIte, Nat.reduceEqDiff, Nat.reduceLT, Nat.reduceLeDiff, Int.reduceLT, Int.reduceLE, Int.reduceEq, Int.reduceAdd, Int.reduceSub, Int.reduceNeg, Int.reduceToNat, Nat.reduceAdd, Nat.reduceMul, Nat.reduceSub, reduceCtorEq, RC, Int.cast_ofNat_Int, hn, g0, g1, g2]
  refine callFW_of (withZ_ok N v es (hS.base hv) he w [x, y] (hS.rd 1 rfl) (by simp)) ?_
  rintro r H3 ⟨rfl, hS2⟩
  have hS := hS.trans hS2
  generalize chk2 N es [x, y] = e at hc ⊢
  repeat first | (with_reducible first | refine Wp.seq ?_ | refine Wp.reg ?_ | refine Wp.block ?_ | refine Wp.skip ?_ | refine Wp.ret ?_ | refine Wp.exit ?_ | refine Wp.label ?_ | refine Wp.condG ?_) | simp (disch := omega) only [↓RP, RQ, TS, TR, ↓reduceIte, Nat.reduceEqDiff, Nat.reduceLT, Nat.reduceLeDiff, Int.reduceLT, Int.reduceLE, Int.reduceEq, Int.reduceAdd, Int.reduceSub, Int.reduceNeg, Int.reduceToNat, Nat.reduceAdd, Nat.reduceMul, Nat.reduceSub, reduceCtorEq, RC, Int.cast_ofNat_Int, hn, g0, g1, g2]
  refine condW_split (fun h => ?_) (fun h => absurd hc h)
  repeat first | (with_reducible first | refine Wp.seq ?_ | refine Wp.reg ?_ | refine Wp.block ?_ | refine Wp.skip ?_ | refine Wp.ret ?_ | refine Wp.exit ?_ | refine Wp.label ?_ | refine Wp.condG ?_) | simp (disch := omega) only [↓RP, RQ, TS, TR, ↓reduceIte, Nat.reduceEqDiff, Nat.reduceLT, Nat.reduceLeDiff, Int.reduceLT, Int.reduceLE, Int.reduceEq, Int.reduceAdd, Int.reduceSub, Int.reduceNeg, Int.reduceToNat, Nat.reduceAdd, Nat.reduceMul, Nat.reduceSub, reduceCtorEq, RC, Int.cast_ofNat_Int, hn, g0, g1, g2]
  exact hS.forget

theorem reachZ_ok (N : Int) (v : Value) (es : List (Int × Int)) (hv : EgZ H v es) (he : es.length < 1000000) (x : Int) (hc : chk2 N es [x] ≠ 0) : Fn Try.prog 25 [.agg #[I N, v], I x] H fun r H' => r = .tuple #[.slice none 0 0, I (chk2 N es [x])] ∧ St Try.prog H H' [] := by
  refine Fn.of_wp (fn := Try.f25) rfl rfl (by kernel_rfl) fun l hl => ?_
  have hn : l.length = 33 := by rw [hl]; rfl
  have g0 : get l 0 = .agg #[I N, v] := by rw [hl]; rfl
  have g1 : get l 1 = I x := by rw [hl]; rfl
  clear hl
  repeat first | (with_reducible first | refine Wp.seq ?_ | refine Wp.reg ?_ | refine Wp.block ?_ | refine Wp.skip ?_ | refine Wp.ret ?_ | refine Wp.exit ?_ | refine Wp.label ?_ | refine Wp.condG ?_) | simp (disch := omega) only [↓RP, RQ, TS, TR, ↓reduceIte, Nat.reduceEqDiff, Nat.reduceLT, Nat.reduceLeDiff, Int.reduceLT, Int.reduceLE, Int.reduceEq, Int.reduceAdd, Int.reduceSub, Int.reduceNeg, Int.reduceToNat, Nat.reduceAdd, Nat.reduceMul, Nat.reduceSub, reduceCtorEq, RC, Int.cast_ofNat_Int, hn, g0, g1]
  refine (St.refl _ H).eNew 2 [I N, v] rfl rfl (by simp [RdAt.one hv]; rfl) tS27 fun A H1 hS => ?_
  repeat first | (with_reducible first | refine Wp.seq ?_ | refine Wp.reg ?_ | refine Wp.block ?_ | refine Wp.skip ?_ | refine Wp.ret ?_ | refine Wp.exit ?_ | refine Wp.label ?_ | refine Wp.condG ?_) | simp (disch := omega) only [↓RP, RQ, TS, TR, ↓reduceIte, Nat.reduceEqDiff, Nat.reduceLT, Nat.reduceLeDiff, Int.reduceLT, Int.reduceLE, Int.reduceEq, Int.reduceAdd, Int.reduceSub, Int.reduceNeg, Int.reduceToNat, Nat.reduceAdd, Nat.reduceMul, Nat.reduceSub, reduceCtorEq, RC, Int.cast_ofNat_Int, hn, g0, g1, hS.ldA 0 rfl]
  refine callFW_of (distanceZ_ok N v es (hS.base hv) he x hc) ?_
  rintro r H3 ⟨rfl, hS2⟩
  have hS := (hS.trans hS2).nil 0
  simp only [List.nil_append, List.cons_append, List.append_nil, List.set_cons_zero, List.set_cons_succ, setMany_cons, setMany_nil, Nat.zero_add, Nat.mul_one, Nat.add_zero] at hS
  generalize chk2 N es [x] = e at hc ⊢
  have hnil : Sl1 H3 (.slice none 0 0) (fun n : Nat => I n) [] := hS.rd 1 rfl
  repeat first | (with_reducible first | refine Wp.seq ?_ | refine Wp.reg ?_ | refine Wp.block ?_ | refine Wp.skip ?_ | refine Wp.ret ?_ | refine Wp.exit ?_ | refine Wp.label ?_ | refine Wp.condG ?_) | simp (disch := omega) only [↓RP, RQ, TS, TR, ↓reduceIte, Nat.reduceEqDiff, Nat.reduceLT, Nat.reduceLeDiff, Int.reduceLT, Int.reduceLE, Int.reduceEq, Int.reduceAdd, Int.reduceSub, Int.reduceNeg, Int.reduceToNat, Nat.reduceAdd, Nat.reduceMul, Nat.reduceSub, reduceCtorEq, RC, Int.cast_ofNat_Int, hn, g0, g1, hnil.len]
  refine Wp.loopN (fun n l H' => H' = H3 ∧ l.length = 33 ∧ get l 7 = I e ∧ get l 8 = .slice none 0 0 ∧ get l 18 = I 0 ∧ get l 19 = I 0) 0 ?_ ?_
  · repeat first | (with_reducible first | refine Wp.seq ?_ | refine Wp.reg ?_ | refine Wp.block ?_ | refine Wp.skip ?_ | refine Wp.ret ?_ | refine Wp.exit ?_ | refine Wp.label ?_ | refine Wp.condG ?_) | simp (disch := omega) only [↓RP, RQ, TS, TR, ↓reduceIte, Nat.reduceEqDiff, Nat.reduceLT, Nat.reduceLeDiff, Int.reduceLT, Int.reduceLE, Int.reduceEq, Int.reduceAdd, Int.reduceSub, Int.reduceNeg, Int.reduceToNat, Nat.reduceAdd, Nat.reduceMul, Nat.reduceSub, reduceCtorEq, RC, Int.cast_ofNat_Int, hn, g0, g1]
  clear hn g0 g1
  rintro n l H' ⟨rfl, hn, g7, g8, g18, g19⟩
  repeat first | (with_reducible first | refine Wp.seq ?_ | refine Wp.reg ?_ | refine Wp.block ?_ | refine Wp.skip ?_ | refine Wp.ret ?_ | refine Wp.exit ?_ | refine Wp.label ?_ | refine Wp.condG ?_) | simp (disch := omega) only [↓RP, RQ, TS, TR, ↓reduceIte, Nat.reduceEqDiff, Nat.reduceLT, Nat.reduceLeDiff, Int.reduceLT, Int.reduceLE, Int.reduceEq, Int.reduceAdd, Int.reduceSub, Int.reduceNeg, Int.reduceToNat, Nat.reduceAdd, Nat.reduceMul, Nat.reduceSub, reduceCtorEq, RC, Int.cast_ofNat_Int, hn, g7, g8, g18, g19]
  exact hS.forget
end Go.Ds
/-
  Contracts: simple, Condense.
-/
namespace Go.Ds
open Go.Proofs Go.Plain
variable {H : Heap}

/-- Different edges in order. -/
def sd (es : List (Nat × Nat)) : List (Nat × Nat) := dd (srt es) (srt es).length

theorem tB27s (n : Int) (a : Option Addr) (m c : Nat) : builtV Try.prog 27 [(0, I n), (1, .slice a m c)] = some (.agg #[I n, .slice a m c]) := by kernel_rfl
theorem RdAt.isSlice {v : Value} {size : Nat} {cs : List Value} (h : RdAt H v size cs) : ∃ a m c, v = .slice a m c := by
  rcases h with ⟨rfl, rfl⟩ | ⟨A, i, e, row, ty, rw, lo, ver, n, h1, h2, h3, h4, h5, h6, rfl⟩ <;> exact ⟨_, _, _, rfl⟩

theorem simple_ok {H0 : Base} {os : List Ob} {v : Value} {es : List (Nat × Nat)} (n : Int) (hS : St Try.prog H0 H (⟨v, 2, eg es⟩ :: os)) (hl : es.length < 1000000) (hb : ∀ e ∈ es, e.1 < 256 ∧ e.2 < 256) :
    Fn Try.prog 46 [I n, v] H fun r H' => ∃ (w : Value) (rest : List Value), (∀ H2, RdAt H2 v 2 (eg (sd es) ++ rest) → RdAt H2 w 2 (eg (sd es))) ∧ r = .agg #[I n, w] ∧ St Try.prog H0 H' (⟨v, 2, eg (sd es) ++ rest⟩ :: os) := by
  refine Fn.of_wp (fn := Try.f46) rfl rfl (by kernel_rfl) fun l hl => ?_
  have hn : l.length = 11 := by rw [hl]; rfl
  have g0 : get l 0 = I n := by rw [hl]; rfl
  have g1 : get l 1 = v := by rw [hl]; rfl
  clear hl
  repeat first | (with_reducible first | refine Wp.seq ?_ | refine Wp.reg ?_ | refine Wp.block ?_ | refine Wp.skip ?_ | refine Wp.ret ?_ | refine Wp.exit ?_ | refine Wp.label ?_ | refine Wp.condG ?_) | simp (disch := omega) only [↓RP, RQ, TS, TR, ↓reduceIte, Nat.reduceEqDiff, Nat.reduceLT, Nat.reduceLeDiff, Int.reduceLT, Int.reduceLE, Int.reduceEq, Int.reduceAdd, Int.reduceSub, Int.reduceNeg, Int.reduceToNat, Nat.reduceAdd, Nat.reduceMul, Nat.reduceSub, reduceCtorEq, RC, Int.cast_ofNat_Int, hn, g0, g1]
  refine hS.eNew 2 [I 0, .slice none 0 0] rfl rfl rfl tS27 fun B H2 hS => ?_
  have hS := hS.front.perm (List.Perm.swap _ _ _)
  repeat first | (with_reducible first | refine Wp.seq ?_ | refine Wp.reg ?_ | refine Wp.block ?_ | refine Wp.skip ?_ | refine Wp.ret ?_ | refine Wp.exit ?_ | refine Wp.label ?_ | refine Wp.condG ?_) | simp (disch := omega) only [↓RP, RQ, TS, TR, ↓reduceIte, Nat.reduceEqDiff, Nat.reduceLT, Nat.reduceLeDiff, Int.reduceLT, Int.reduceLE, Int.reduceEq, Int.reduceAdd, Int.reduceSub, Int.reduceNeg, Int.reduceToNat, Nat.reduceAdd, Nat.reduceMul, Nat.reduceSub, reduceCtorEq, RC, Int.cast_ofNat_Int, hn, g0, g1]
  refine sortE_ok hS 0 rfl hb hl fun H3 hS => ?_
  simp only [List.nil_append, List.cons_append, List.append_nil, List.set_cons_zero, List.set_cons_succ, setMany_cons, setMany_nil, Nat.zero_add, Nat.mul_one, Nat.add_zero] at hS
  repeat first | (with_reducible first | refine Wp.seq ?_ | refine Wp.reg ?_ | refine Wp.block ?_ | refine Wp.skip ?_ | refine Wp.ret ?_ | refine Wp.exit ?_ | refine Wp.label ?_ | refine Wp.condG ?_) | simp (disch := omega) only [↓RP, RQ, TS, TR, ↓reduceIte, Nat.reduceEqDiff, Nat.reduceLT, Nat.reduceLeDiff, Int.reduceLT, Int.reduceLE, Int.reduceEq, Int.reduceAdd, Int.reduceSub, Int.reduceNeg, Int.reduceToNat, Nat.reduceAdd, Nat.reduceMul, Nat.reduceSub, reduceCtorEq, RC, Int.cast_ofNat_Int, hn, g0, g1]
  refine callFW_of (compact_ok hS (by rw [(srt_perm hb).length_eq]; exact hl)) ?_
  rintro w H4 ⟨rest, hr, hS⟩
  obtain ⟨a, m, c, rfl⟩ := (hr H4 (hS.rd 0 rfl)).isSlice
  repeat first | (with_reducible first | refine Wp.seq ?_ | refine Wp.reg ?_ | refine Wp.block ?_ | refine Wp.skip ?_ | refine Wp.ret ?_ | refine Wp.exit ?_ | refine Wp.label ?_ | refine Wp.condG ?_) | simp (disch := omega) only [↓RP, RQ, TS, TR, ↓reduceIte, Nat.reduceEqDiff, Nat.reduceLT, Nat.reduceLeDiff, Int.reduceLT, Int.reduceLE, Int.reduceEq, Int.reduceAdd, Int.reduceSub, Int.reduceNeg, Int.reduceToNat, Nat.reduceAdd, Nat.reduceMul, Nat.reduceSub, reduceCtorEq, RC, Int.cast_ofNat_Int, hn, g0, g1, tB27s]
  refine hS.eStore 1 rfl [I n, .slice a m c] rfl rfl tS27 (by simp) fun H5 hS => ?_
  simp only [List.nil_append, List.cons_append, List.append_nil, List.set_cons_zero, List.set_cons_succ, setMany_cons, setMany_nil, Nat.zero_add, Nat.mul_one, Nat.add_zero] at hS
  repeat first | (with_reducible first | refine Wp.seq ?_ | refine Wp.reg ?_ | refine Wp.block ?_ | refine Wp.skip ?_ | refine Wp.ret ?_ | refine Wp.exit ?_ | refine Wp.label ?_ | refine Wp.condG ?_) | simp (disch := omega) only [↓RP, RQ, TS, TR, ↓reduceIte, Nat.reduceEqDiff, Nat.reduceLT, Nat.reduceLeDiff, Int.reduceLT, Int.reduceLE, Int.reduceEq, Int.reduceAdd, Int.reduceSub, Int.reduceNeg, Int.reduceToNat, Nat.reduceAdd, Nat.reduceMul, Nat.reduceSub, reduceCtorEq, RC, Int.cast_ofNat_Int, hn, g0, g1, hS.ldA 1 rfl]
  exact ⟨_, rest, hr, rfl, hS.sub (.cons_cons _ (.cons _ (.refl _)))⟩

/-- The edges between components, of the first edges. -/
def xe (ds : Nat → List Int) (N : Nat) (es : List (Nat × Nat)) : List (Nat × Nat) := (es.filter fun e => decide (cn ds N e.1 ≠ cn ds N e.2)).map fun e => ((cn ds N e.1).toNat, (cn ds N e.2).toNat)
theorem xe_le (ds : Nat → List Int) (N : Nat) (es : List (Nat × Nat)) : (xe ds N es).length ≤ es.length := by
  unfold xe
  rw [List.length_map]
  exact List.length_filter_le _ _
theorem xe_succ (ds : Nat → List Int) (N : Nat) (es : List (Nat × Nat)) (i : Nat) (hi : i < es.length) : xe ds N (es.take (i + 1)) = xe ds N (es.take i) ++
    (if cn ds N (es.getD i (0, 0)).1 ≠ cn ds N (es.getD i (0, 0)).2 then [((cn ds N (es.getD i (0, 0)).1).toNat, (cn ds N (es.getD i (0, 0)).2).toNat)] else []) := by
  unfold xe
  rw [take_succ_getD es i (0, 0) hi, List.filter_append, List.map_append]
  congr 1
  by_cases h : cn ds N (es.getD i (0, 0)).1 ≠ cn ds N (es.getD i (0, 0)).2
  · rw [if_pos h]
    simp only [List.filter_cons, List.filter_nil, decide_eq_true h, if_true, List.map_cons, List.map_nil]
  · rw [if_neg h]
    simp only [List.filter_cons, List.filter_nil, decide_eq_false h, Bool.false_eq_true, if_false, List.map_nil]
theorem lds_mono (ds : Nat → List Int) {i N : Nat} (h : i ≤ N) : (lds ds i).length ≤ (lds ds N).length := by
  obtain ⟨m, rfl⟩ : ∃ m, N = i + m := ⟨N - i, by omega⟩
  induction m with
  | zero => exact Nat.le_refl _
  | succ m ih =>
    rw [← Nat.add_assoc, lds_succ, List.length_append]
    have := ih (by omega)
    omega
theorem cn_range {ds : Nat → List Int} {N : Nat} (h : Eqv ds N) {k : Nat} (hk : k < N) : 0 ≤ cn ds N k ∧ cn ds N k < (lds ds N).length := by
  have h1 := ld_spec h hk
  unfold cn
  rw [if_pos (by omega)]
  have h2 := lds_mono ds (show ld ds k + 1 ≤ N by omega)
  rw [lds_succ, if_pos (ld_idem h hk), List.length_append, List.length_singleton] at h2
  omega

set_option maxHeartbeats 1000000 in
theorem condense_ok (N : Nat) (v : Value) (es : List (Nat × Nat)) (hv : Eg H v es) (h1N : 1 ≤ N) (hN : N ≤ 200) (he : es.length ≤ 1000) (hval : ∀ e ∈ es, e.1 < N ∧ e.2 < N) :
    Fn Try.prog 33 [.agg #[I N, v]] H fun r H' => ∃ (ds : Nat → List Int) (w : Value), IsT es N ds ∧ r = .tuple #[.agg #[I (lds ds N).length, w], I 0] ∧ ∃ (lv : Value) (rest : List Value), (∀ H2, RdAt H2 lv 2 (eg (sd (xe ds N es)) ++ rest) → RdAt H2 w 2 (eg (sd (xe ds N es)))) ∧ St Try.prog H H' [⟨lv, 2, eg (sd (xe ds N es)) ++ rest⟩] := by
  refine Fn.of_wp (fn := Try.f33) rfl rfl (by kernel_rfl) fun l hl => ?_
  have hn : l.length = 58 := by rw [hl]; rfl
  have g0 : get l 0 = .agg #[I N, v] := by rw [hl]; rfl
  clear hl
  repeat first | (with_reducible first | refine Wp.seq ?_ | refine Wp.reg ?_ | refine Wp.block ?_ | refine Wp.skip ?_ | refine Wp.ret ?_ | refine Wp.exit ?_ | refine Wp.label ?_ | refine Wp.condG ?_) | simp (disch := omega) only [↓RP, RQ, TS, TR, ↓reduceIte, Nat.reduceEqDiff, Nat.reduceLT, Nat.reduceLeDiff, Int.reduceLT, Int.reduceLE, Int.reduceEq, Int.reduceAdd, Int.reduceSub, Int.reduceNeg, Int.reduceToNat, Nat.reduceAdd, Nat.reduceMul, Nat.reduceSub, reduceCtorEq, RC, Int.cast_ofNat_Int, hn, g0]
  refine (St.refl _ H).eNew 2 [I N, v] rfl rfl (by simp [hv.one]; rfl) tS27 fun A H1 hS => ?_
  repeat first | (with_reducible first | refine Wp.seq ?_ | refine Wp.reg ?_ | refine Wp.block ?_ | refine Wp.skip ?_ | refine Wp.ret ?_ | refine Wp.exit ?_ | refine Wp.label ?_ | refine Wp.condG ?_) | simp (disch := omega) only [↓RP, RQ, TS, TR, ↓reduceIte, Nat.reduceEqDiff, Nat.reduceLT, Nat.reduceLeDiff, Int.reduceLT, Int.reduceLE, Int.reduceEq, Int.reduceAdd, Int.reduceSub, Int.reduceNeg, Int.reduceToNat, Nat.reduceAdd, Nat.reduceMul, Nat.reduceSub, reduceCtorEq, RC, Int.cast_ofNat_Int, hn, g0]
  refine hS.eNew 2 [I 0, .slice none 0 0] rfl rfl rfl tS27 fun R H2 hS => ?_
  repeat first | (with_reducible first | refine Wp.seq ?_ | refine Wp.reg ?_ | refine Wp.block ?_ | refine Wp.skip ?_ | refine Wp.ret ?_ | refine Wp.exit ?_ | refine Wp.label ?_ | refine Wp.condG ?_) | simp (disch := omega) only [↓RP, RQ, TS, TR, ↓reduceIte, Nat.reduceEqDiff, Nat.reduceLT, Nat.reduceLeDiff, Int.reduceLT, Int.reduceLE, Int.reduceEq, Int.reduceAdd, Int.reduceSub, Int.reduceNeg, Int.reduceToNat, Nat.reduceAdd, Nat.reduceMul, Nat.reduceSub, reduceCtorEq, RC, Int.cast_ofNat_Int, hn, g0, hS.ldA 0 rfl]
  refine callFW_of (check_ok N v es (hS.base hv) hN he hval) ?_
  rintro r H3 ⟨rfl, hS2⟩
  have hS := hS.trans hS2
  simp only [List.nil_append, List.cons_append, List.append_nil, List.set_cons_zero, List.set_cons_succ, setMany_cons, setMany_nil, Nat.zero_add, Nat.mul_one, Nat.add_zero] at hS
  repeat first | (with_reducible first | refine Wp.seq ?_ | refine Wp.reg ?_ | refine Wp.block ?_ | refine Wp.skip ?_ | refine Wp.ret ?_ | refine Wp.exit ?_ | refine Wp.label ?_ | refine Wp.condG ?_) | simp (disch := omega) only [↓RP, RQ, TS, TR, ↓reduceIte, Nat.reduceEqDiff, Nat.reduceLT, Nat.reduceLeDiff, Int.reduceLT, Int.reduceLE, Int.reduceEq, Int.reduceAdd, Int.reduceSub, Int.reduceNeg, Int.reduceToNat, Nat.reduceAdd, Nat.reduceMul, Nat.reduceSub, reduceCtorEq, RC, Int.cast_ofNat_Int, hn, g0, hS.ldA 0 rfl]
  refine callFW_of (members_ok N v es (hS.base hv) h1N hN he hval) ?_
  rintro r H4 ⟨ds, dv, ov, ws, hT, rfl, hS2⟩
  have hds := hT.1
  have hE := eqv_of hds
  have hS := ((hS.trans hS2).nil 1).front
  simp only [List.nil_append, List.cons_append, List.append_nil, List.set_cons_zero, List.set_cons_succ, setMany_cons, setMany_nil, Nat.zero_add, Nat.mul_one, Nat.add_zero] at hS
  have hv1 : Sl2 H4 v _ _ es := hS.base hv
  repeat first | (with_reducible first | refine Wp.seq ?_ | refine Wp.reg ?_ | refine Wp.block ?_ | refine Wp.skip ?_ | refine Wp.ret ?_ | refine Wp.exit ?_ | refine Wp.label ?_ | refine Wp.condG ?_) | simp (disch := omega) only [↓RP, RQ, TS, TR, ↓reduceIte, Nat.reduceEqDiff, Nat.reduceLT, Nat.reduceLeDiff, Int.reduceLT, Int.reduceLE, Int.reduceEq, Int.reduceAdd, Int.reduceSub, Int.reduceNeg, Int.reduceToNat, Nat.reduceAdd, Nat.reduceMul, Nat.reduceSub, reduceCtorEq, RC, Int.cast_ofNat_Int, hn, g0, hS.ld 1 rfl, hv1.len]
  refine Wp.loopN (fun n l H' => l.length = 58 ∧ get l 2 = ptr R 0 2 ∧ get l 5 = dv ∧ get l 6 = ov ∧ get l 22 = v ∧ get l 23 = I es.length ∧ ∃ (i : Nat) (lv : Value), n + i = es.length ∧ get l 24 = I i ∧ get l 7 = lv ∧
    St Try.prog H H' (⟨lv, 2, eg (xe ds N (es.take i))⟩ :: ⟨ptr A 0 2, 0, [I N, v]⟩ :: ⟨ptr R 0 2, 0, [I 0, .slice none 0 0]⟩ :: ⟨dv, 1, tb N (cn ds N)⟩ :: ⟨ov, 1, (List.range (lds ds N).length).map ws⟩ :: inner (lds ds N).length ws (gr ds N))) es.length ?_ ?_
  · repeat first | (with_reducible first | refine Wp.seq ?_ | refine Wp.reg ?_ | refine Wp.block ?_ | refine Wp.skip ?_ | refine Wp.ret ?_ | refine Wp.exit ?_ | refine Wp.label ?_ | refine Wp.condG ?_) | simp (disch := omega) only [↓RP, RQ, TS, TR, ↓reduceIte, Nat.reduceEqDiff, Nat.reduceLT, Nat.reduceLeDiff, Int.reduceLT, Int.reduceLE, Int.reduceEq, Int.reduceAdd, Int.reduceSub, Int.reduceNeg, Int.reduceToNat, Nat.reduceAdd, Nat.reduceMul, Nat.reduceSub, reduceCtorEq, RC, Int.cast_ofNat_Int, hn, g0]
    exact ⟨0, _, rfl, rfl, rfl, hS⟩
  clear hS hS2 hn g0 hv1
  rintro n l H' ⟨hn, g2, g5, g6, g22, g23, i, lv, hi, g24, g7, hS⟩
  have hv1 : Sl2 H' v _ _ es := hS.base hv
  repeat first | (with_reducible first | refine Wp.seq ?_ | refine Wp.reg ?_ | refine Wp.block ?_ | refine Wp.skip ?_ | refine Wp.ret ?_ | refine Wp.exit ?_ | refine Wp.label ?_ | refine Wp.condG ?_) | simp (disch := omega) only [↓RP, RQ, TS, TR, ↓reduceIte, Nat.reduceEqDiff, Nat.reduceLT, Nat.reduceLeDiff, Int.reduceLT, Int.reduceLE, Int.reduceEq, Int.reduceAdd, Int.reduceSub, Int.reduceNeg, Int.reduceToNat, Nat.reduceAdd, Nat.reduceMul, Nat.reduceSub, reduceCtorEq, RC, Int.cast_ofNat_Int, hn, g2, g5, g6, g7, g22, g23, g24]
  refine condW_split (fun h => ?_) (fun h => ?_)
  · have hil : i < es.length := by omega
    have hm := hval _ (getD_mem (0, 0) hil)
    have hsucc := xe_succ ds N es i hil
    have hxl := xe_le ds N (es.take i)
    rw [List.length_take] at hxl
    have c1 := cn_range hE hm.1
    have c2 := cn_range hE hm.2
    have hrl : (List.range N).length = N := List.length_range
    repeat first | (with_reducible first | refine Wp.seq ?_ | refine Wp.reg ?_ | refine Wp.block ?_ | refine Wp.skip ?_ | refine Wp.ret ?_ | refine Wp.exit ?_ | refine Wp.label ?_ | refine Wp.condG ?_) | simp (disch := omega) only [↓RP, RQ, TS, TR, ↓reduceIte, Nat.reduceEqDiff, Nat.reduceLT, Nat.reduceLeDiff, Int.reduceLT, Int.reduceLE, Int.reduceEq, Int.reduceAdd, Int.reduceSub, Int.reduceNeg, Int.reduceToNat, Nat.reduceAdd, Nat.reduceMul, Nat.reduceSub, reduceCtorEq, RC, Int.cast_ofNat_Int, hn, g2, g5, g6, g7, g22, g23, g24, hv1.idx, hv1.ldA (0, 0)]
    refine hS.eNew 2 [I 0, I 0] rfl rfl rfl tS48 fun C H5 hS => ?_
    have hS := hS.front
    repeat first | (with_reducible first | refine Wp.seq ?_ | refine Wp.reg ?_ | refine Wp.block ?_ | refine Wp.skip ?_ | refine Wp.ret ?_ | refine Wp.exit ?_ | refine Wp.label ?_ | refine Wp.condG ?_) | simp (disch := omega) only [↓RP, RQ, TS, TR, ↓reduceIte, Nat.reduceEqDiff, Nat.reduceLT, Nat.reduceLeDiff, Int.reduceLT, Int.reduceLE, Int.reduceEq, Int.reduceAdd, Int.reduceSub, Int.reduceNeg, Int.reduceToNat, Nat.reduceAdd, Nat.reduceMul, Nat.reduceSub, reduceCtorEq, RC, Int.cast_ofNat_Int, hn, g2, g5, g6, g7, g22, g23, g24]
    refine hS.eStore 0 rfl [_, _] rfl rfl tS48 (by simp) fun H6 hS => ?_
    simp only [List.nil_append, List.cons_append, List.append_nil, List.set_cons_zero, List.set_cons_succ, setMany_cons, setMany_nil, Nat.zero_add, Nat.mul_one, Nat.add_zero] at hS
    have hd : Sl1 H6 dv (fun k => I (cn ds N k)) (List.range N) := hS.rd 4 rfl
    repeat first | (with_reducible first | refine Wp.seq ?_ | refine Wp.reg ?_ | refine Wp.block ?_ | refine Wp.skip ?_ | refine Wp.ret ?_ | refine Wp.exit ?_ | refine Wp.label ?_ | refine Wp.condG ?_) | with_reducible refine Wp.drw hmix (by kernel_rfl) ?_ | simp (disch := omega) only [↓RP, RQ, TS, TR, ↓reduceIte, Nat.reduceEqDiff, Nat.reduceLT, Nat.reduceLeDiff, Int.reduceLT, Int.reduceLE, Int.reduceEq, Int.reduceAdd, Int.reduceSub, Int.reduceNeg, Int.reduceToNat, Nat.reduceAdd, Nat.reduceMul, Nat.reduceSub, reduceCtorEq, RC, Int.cast_ofNat_Int, hn, g2, g5, g6, g7, g22, g23, g24, hS.ld 0 rfl, hd.idx, hd.ld 0, getD_range]
    refine condW_split (fun h2 => ?_) (fun h2 => ?_)
    · rw [if_pos h2] at hsucc
      repeat first | (with_reducible first | refine Wp.seq ?_ | refine Wp.reg ?_ | refine Wp.block ?_ | refine Wp.skip ?_ | refine Wp.ret ?_ | refine Wp.exit ?_ | refine Wp.label ?_ | refine Wp.condG ?_) | with_reducible refine Wp.drw hmix (by kernel_rfl) ?_ | simp (disch := omega) only [↓RP, RQ, TS, TR, ↓reduceIte, Nat.reduceEqDiff, Nat.reduceLT, Nat.reduceLeDiff, Int.reduceLT, Int.reduceLE, Int.reduceEq, Int.reduceAdd, Int.reduceSub, Int.reduceNeg, Int.reduceToNat, Nat.reduceAdd, Nat.reduceMul, Nat.reduceSub, reduceCtorEq, RC, Int.cast_ofNat_Int, hn, g2, g5, g6, g7, g22, g23, g24, hS.ld 0 rfl, hd.idx, hd.ld 0, getD_range]
      refine hS.eSlice [I _, I _] tP25 tF25 rfl rfl (by simp [Value.cells]) rfl rfl (by decide) (by decide) fun x H7 hS => ?_
      have hS := hS.front
      repeat first | (with_reducible first | refine Wp.seq ?_ | refine Wp.reg ?_ | refine Wp.block ?_ | refine Wp.skip ?_ | refine Wp.ret ?_ | refine Wp.exit ?_ | refine Wp.label ?_ | refine Wp.condG ?_) | simp (disch := omega) only [↓RP, RQ, TS, TR, ↓reduceIte, Nat.reduceEqDiff, Nat.reduceLT, Nat.reduceLeDiff, Int.reduceLT, Int.reduceLE, Int.reduceEq, Int.reduceAdd, Int.reduceSub, Int.reduceNeg, Int.reduceToNat, Nat.reduceAdd, Nat.reduceMul, Nat.reduceSub, reduceCtorEq, RC, Int.cast_ofNat_Int, hn, g2, g5, g6, g7, g22, g23, g24]
      refine hS.eAppend 2 rfl (hS.rd 0 rfl) tP25 (by simp only [eg_length, List.length_cons, List.length_nil]; omega) fun lv' H8 hS => ?_
      simp only [List.nil_append, List.cons_append, List.append_nil, List.set_cons_zero, List.set_cons_succ, setMany_cons, setMany_nil, Nat.zero_add, Nat.mul_one, Nat.add_zero] at hS
      repeat first | (with_reducible first | refine Wp.seq ?_ | refine Wp.reg ?_ | refine Wp.block ?_ | refine Wp.skip ?_ | refine Wp.ret ?_ | refine Wp.exit ?_ | refine Wp.label ?_ | refine Wp.condG ?_) | simp (disch := omega) only [↓RP, RQ, TS, TR, ↓reduceIte, Nat.reduceEqDiff, Nat.reduceLT, Nat.reduceLeDiff, Int.reduceLT, Int.reduceLE, Int.reduceEq, Int.reduceAdd, Int.reduceSub, Int.reduceNeg, Int.reduceToNat, Nat.reduceAdd, Nat.reduceMul, Nat.reduceSub, reduceCtorEq, RC, Int.cast_ofNat_Int, hn, g2, g5, g6, g7, g22, g23, g24, wrap_fit]
      refine ⟨n - 1, by omega, i + 1, lv', by omega, rfl, rfl, ?_⟩
      rw [hsucc, eg_append, show eg [((cn ds N (es.getD i (0, 0)).1).toNat, (cn ds N (es.getD i (0, 0)).2).toNat)] = [I (cn ds N (es.getD i (0, 0)).1), I (cn ds N (es.getD i (0, 0)).2)] from by
        show [I _, I _] = _
        rw [Int.toNat_of_nonneg c1.1, Int.toNat_of_nonneg c2.1]]
      exact hS.tail.tail
    · rw [if_neg h2, List.append_nil] at hsucc
      repeat first | (with_reducible first | refine Wp.seq ?_ | refine Wp.reg ?_ | refine Wp.block ?_ | refine Wp.skip ?_ | refine Wp.ret ?_ | refine Wp.exit ?_ | refine Wp.label ?_ | refine Wp.condG ?_) | simp (disch := omega) only [↓RP, RQ, TS, TR, ↓reduceIte, Nat.reduceEqDiff, Nat.reduceLT, Nat.reduceLeDiff, Int.reduceLT, Int.reduceLE, Int.reduceEq, Int.reduceAdd, Int.reduceSub, Int.reduceNeg, Int.reduceToNat, Nat.reduceAdd, Nat.reduceMul, Nat.reduceSub, reduceCtorEq, RC, Int.cast_ofNat_Int, hn, g2, g5, g6, g7, g22, g23, g24, wrap_fit]
      refine ⟨n - 1, by omega, i + 1, lv, by omega, rfl, rfl, ?_⟩
      rw [hsucc]
      exact hS.tail
  · have hie : i = es.length := by omega
    subst hie
    rw [List.take_length] at hS
    have hov : Sl1 H' ov ws (List.range (lds ds N).length) := hS.rd 4 rfl
    have hrl2 : (List.range (lds ds N).length).length = (lds ds N).length := List.length_range
    have hxl := xe_le ds N es
    have hM := lds_le ds N
    repeat first | (with_reducible first | refine Wp.seq ?_ | refine Wp.reg ?_ | refine Wp.block ?_ | refine Wp.skip ?_ | refine Wp.ret ?_ | refine Wp.exit ?_ | refine Wp.label ?_ | refine Wp.condG ?_) | simp (disch := omega) only [↓RP, RQ, TS, TR, ↓reduceIte, Nat.reduceEqDiff, Nat.reduceLT, Nat.reduceLeDiff, Int.reduceLT, Int.reduceLE, Int.reduceEq, Int.reduceAdd, Int.reduceSub, Int.reduceNeg, Int.reduceToNat, Nat.reduceAdd, Nat.reduceMul, Nat.reduceSub, reduceCtorEq, RC, Int.cast_ofNat_Int, hn, g2, g5, g6, g7, g22, g23, g24, hov.len, hrl2]
    refine callFW_of (simple_ok (lds ds N).length hS (by omega) (fun e he => ?_)) ?_
    · unfold xe at he
      obtain ⟨x, hx, rfl⟩ := List.mem_map.1 he
      have hm := hval x (List.mem_filter.1 hx).1
      have c1 := cn_range hE hm.1
      have c2 := cn_range hE hm.2
      simp only
      omega
    rintro r H5 ⟨w, rest, hw, rfl, hS⟩
    have hE2 := hw _ (hS.rd 0 rfl)
    repeat first | (with_reducible first | refine Wp.seq ?_ | refine Wp.reg ?_ | refine Wp.block ?_ | refine Wp.skip ?_ | refine Wp.ret ?_ | refine Wp.exit ?_ | refine Wp.label ?_ | refine Wp.condG ?_) | simp (disch := omega) only [↓RP, RQ, TS, TR, ↓reduceIte, Nat.reduceEqDiff, Nat.reduceLT, Nat.reduceLeDiff, Int.reduceLT, Int.reduceLE, Int.reduceEq, Int.reduceAdd, Int.reduceSub, Int.reduceNeg, Int.reduceToNat, Nat.reduceAdd, Nat.reduceMul, Nat.reduceSub, reduceCtorEq, RC, Int.cast_ofNat_Int, hn, g2, g5, g6, g7, g22, g23, g24]
    refine hS.eStore 2 rfl [I (lds ds N).length, w] rfl (by simp [hE2.one]; rfl) tS27 (by simp) fun H6 hS => ?_
    simp only [List.nil_append, List.cons_append, List.append_nil, List.set_cons_zero, List.set_cons_succ, setMany_cons, setMany_nil, Nat.zero_add, Nat.mul_one, Nat.add_zero] at hS
    repeat first | (with_reducible first | refine Wp.seq ?_ | refine Wp.reg ?_ | refine Wp.block ?_ | refine Wp.skip ?_ | refine Wp.ret ?_ | refine Wp.exit ?_ | refine Wp.label ?_ | refine Wp.condG ?_) | simp (disch := omega) only [↓RP, RQ, TS, TR, ↓reduceIte, Nat.reduceEqDiff, Nat.reduceLT, Nat.reduceLeDiff, Int.reduceLT, Int.reduceLE, Int.reduceEq, Int.reduceAdd, Int.reduceSub, Int.reduceNeg, Int.reduceToNat, Nat.reduceAdd, Nat.reduceMul, Nat.reduceSub, reduceCtorEq, RC, Int.cast_ofNat_Int, hn, g2, g5, g6, g7, tR33, hS.ldA 2 rfl]
    exact ⟨ds, w, hT, rfl, lv, rest, hw, hS.sub (.cons_cons _ (List.nil_sublist _))⟩
end Go.Ds
/-
  Plain: edges in order, each once.
-/
namespace Go.Ds
open Go.Proofs Go.Plain

def lexLt (a b : Nat × Nat) : Prop := a.1 < b.1 ∨ (a.1 = b.1 ∧ a.2 < b.2)
theorem lexLt.trans {a b c : Nat × Nat} (h1 : lexLt a b) (h2 : lexLt b c) : lexLt a c := by unfold lexLt at *; omega
theorem lexLt.irrefl (a : Nat × Nat) : ¬ lexLt a a := by unfold lexLt; omega
theorem lex_le_lt {a b c : Nat × Nat} (h1 : lexLe a b) (h2 : lexLe b c) (h3 : c ≠ b) : lexLt a c := by
  unfold lexLe lexLt at *
  have h4 : ¬ (c.1 = b.1 ∧ c.2 = b.2) := fun h => h3 (Prod.ext h.1 h.2)
  omega
theorem lexLe.trans {a b c : Nat × Nat} (h1 : lexLe a b) (h2 : lexLe b c) : lexLe a c := by unfold lexLe at *; omega

/-- Lists in strict order are told by their members. -/
theorem strict_ext : ∀ {l m : List (Nat × Nat)}, l.Pairwise lexLt → m.Pairwise lexLt → (∀ e, e ∈ l ↔ e ∈ m) → l = m
  | [], [], _, _, _ => rfl
  | [], b :: m, _, _, h => by
    have := (h b).2 (List.mem_cons_self ..)
    cases this
  | a :: l, [], _, _, h => by
    have := (h a).1 (List.mem_cons_self ..)
    cases this
  | a :: l, b :: m, h1, h2, h => by
    rw [List.pairwise_cons] at h1 h2
    have hab : a = b := by
      rcases List.mem_cons.1 ((h a).1 (List.mem_cons_self ..)) with e | ha
      · exact e
      · rcases List.mem_cons.1 ((h b).2 (List.mem_cons_self ..)) with e | hb
        · exact e.symm
        · exact (lexLt.irrefl a ((h1.1 b hb).trans (h2.1 a ha))).elim
    subst hab
    congr 1
    refine strict_ext h1.2 h2.2 fun e => ?_
    constructor
    · intro he
      rcases List.mem_cons.1 ((h e).1 (List.mem_cons_of_mem _ he)) with e1 | e1
      · subst e1; exact (lexLt.irrefl _ (h1.1 _ he)).elim
      · exact e1
    · intro he
      rcases List.mem_cons.1 ((h e).2 (List.mem_cons_of_mem _ he)) with e1 | e1
      · subst e1; exact (lexLt.irrefl _ (h2.1 _ he)).elim
      · exact e1

theorem dd_strict (l : List (Nat × Nat)) (hl : l.Pairwise lexLe) : ∀ m, m ≤ l.length → (dd l m).Pairwise lexLt ∧ (∀ e, e ∈ dd l m ↔ e ∈ l.take m) ∧ ∀ e ∈ dd l m, 0 < m ∧ lexLe e (l.getD (m - 1) (0, 0))
  | 0, _ => by simp [dd]
  | m + 1, hm => by
    obtain ⟨h1, h2, h3⟩ := dd_strict l hl m (by omega)
    have hle : 0 < m → lexLe (l.getD (m - 1) (0, 0)) (l.getD m (0, 0)) := fun h0 => by
      have := List.pairwise_iff_getElem.1 hl (m - 1) m (by omega) (by omega) (by omega)
      simpa [List.getD_eq_getElem?_getD, show m - 1 < l.length from by omega, show m < l.length from by omega] using this
    have hself : lexLe (l.getD m (0, 0)) (l.getD m (0, 0)) := by unfold lexLe; omega
    rw [dd_succ, take_succ_getD l m (0, 0) (by omega), Nat.add_sub_cancel]
    by_cases hc : m = 0 ∨ l.getD m (0, 0) ≠ l.getD (m - 1) (0, 0)
    · rw [if_pos hc]
      refine ⟨?_, fun e => by rw [List.mem_append, List.mem_append, h2], fun e he => ⟨by omega, ?_⟩⟩
      · rw [List.pairwise_append]
        refine ⟨h1, List.pairwise_singleton _ _, fun e he e2 he2 => ?_⟩
        obtain rfl := List.mem_singleton.1 he2
        obtain ⟨h0, h4⟩ := h3 e he
        exact lex_le_lt h4 (hle h0) (hc.resolve_left (by omega))
      · rcases List.mem_append.1 he with he | he
        · obtain ⟨h0, h4⟩ := h3 e he
          exact h4.trans (hle h0)
        · obtain rfl := List.mem_singleton.1 he
          exact hself
    · rw [if_neg hc, List.append_nil]
      have h0 : 0 < m := by
        apply Classical.byContradiction
        intro hh
        exact hc (.inl (by omega))
      have heq : l.getD m (0, 0) = l.getD (m - 1) (0, 0) := Classical.byContradiction fun hh => hc (.inr hh)
      refine ⟨h1, fun e => ?_, fun e he => ⟨by omega, (h3 e he).2.trans (hle h0)⟩⟩
      rw [List.mem_append, h2]
      refine ⟨.inl, fun he => ?_⟩
      rcases he with he | he
      · exact he
      · obtain rfl := List.mem_singleton.1 he
        rw [heq]
        have : l.getD (m - 1) (0, 0) ∈ l.take m := by
          rw [List.getD_eq_getElem?_getD, List.getElem?_eq_getElem (by omega)]
          exact List.mem_take_iff_getElem.2 ⟨m - 1, by omega, rfl⟩
        exact this

theorem sd_strict (es : List (Nat × Nat)) : (sd es).Pairwise lexLt := (dd_strict (srt es) (srt_sorted es) _ (Nat.le_refl _)).1
theorem mem_sd {es : List (Nat × Nat)} (h : ∀ e ∈ es, e.1 < 256 ∧ e.2 < 256) (e : Nat × Nat) : e ∈ sd es ↔ e ∈ es := by
  have := (dd_strict (srt es) (srt_sorted es) _ (Nat.le_refl _)).2.1 e
  rw [List.take_length] at this
  exact this.trans (srt_perm h).mem_iff

/-- The pairs of numbers of which something holds, in order. -/
def dr (L : Nat → Nat → Bool) (a b : Nat) : List (Nat × Nat) := ((List.range b).filter (L a)).map fun k => (a, k)
def dA (L : Nat → Nat → Bool) (M a : Nat) : List (Nat × Nat) := (List.range a).flatMap fun x => dr L x M
theorem dr_succ (L : Nat → Nat → Bool) (a b : Nat) : dr L a (b + 1) = dr L a b ++ (if L a b = true then [(a, b)] else []) := by
  unfold dr
  rw [List.range_succ, List.filter_append, List.map_append]
  congr 1
  by_cases h : L a b = true
  · simp [h]
  · simp [h]
theorem dA_succ (L : Nat → Nat → Bool) (M a : Nat) : dA L M (a + 1) = dA L M a ++ dr L a M := by
  unfold dA
  rw [List.range_succ, List.flatMap_append]
  simp
theorem dr_le (L : Nat → Nat → Bool) (a b : Nat) : (dr L a b).length ≤ b := by
  unfold dr
  rw [List.length_map]
  refine Nat.le_trans (List.length_filter_le _ _) ?_
  simp
theorem dA_le (L : Nat → Nat → Bool) (M : Nat) : ∀ a, (dA L M a).length ≤ a * M
  | 0 => by simp [dA]
  | a + 1 => by
    have h1 := dA_le L M a
    have h2 := dr_le L a M
    rw [dA_succ, List.length_append, Nat.succ_mul]
    omega
theorem mem_dA (L : Nat → Nat → Bool) (M a : Nat) (e : Nat × Nat) : e ∈ dA L M a ↔ e.1 < a ∧ e.2 < M ∧ L e.1 e.2 = true := by
  unfold dA dr
  simp only [List.mem_flatMap, List.mem_range, List.mem_map, List.mem_filter]
  constructor
  · rintro ⟨x, hx, k, ⟨hk, hL⟩, rfl⟩
    exact ⟨hx, hk, hL⟩
  · rintro ⟨h1, h2, h3⟩
    exact ⟨e.1, h1, e.2, ⟨h2, h3⟩, rfl⟩
theorem dr_strict (L : Nat → Nat → Bool) (a : Nat) : ∀ b, (dr L a b).Pairwise lexLt
  | 0 => by simp [dr]
  | b + 1 => by
    rw [dr_succ, List.pairwise_append]
    refine ⟨dr_strict L a b, ?_, fun e he e2 he2 => ?_⟩
    · split
      · exact List.pairwise_singleton _ _
      · exact .nil
    · split at he2
      · obtain rfl := List.mem_singleton.1 he2
        unfold dr at he
        obtain ⟨k, hk, rfl⟩ := List.mem_map.1 he
        exact .inr ⟨rfl, List.mem_range.1 (List.mem_filter.1 hk).1⟩
      · cases he2
theorem dA_strict (L : Nat → Nat → Bool) (M : Nat) : ∀ a, (dA L M a).Pairwise lexLt
  | 0 => by simp [dA]
  | a + 1 => by
    rw [dA_succ, List.pairwise_append]
    refine ⟨dA_strict L M a, dr_strict L a M, fun e he e2 he2 => ?_⟩
    have h1 := (mem_dA L M a e).1 he
    unfold dr at he2
    obtain ⟨k, _, rfl⟩ := List.mem_map.1 he2
    exact .inl h1.1

/-- One of the first edges leads from a component to another. -/
def lead (ds : Nat → List Int) (N : Nat) (es : List (Nat × Nat)) (i a b : Nat) : Bool := (es.take i).any fun e => decide (a ≠ b ∧ cn ds N e.1 = a ∧ cn ds N e.2 = b)
theorem lead_succ (ds : Nat → List Int) (N : Nat) (es : List (Nat × Nat)) (i a b : Nat) (hi : i < es.length) : lead ds N es (i + 1) a b = (lead ds N es i a b || decide (a ≠ b ∧ cn ds N (es.getD i (0, 0)).1 = a ∧ cn ds N (es.getD i (0, 0)).2 = b)) := by
  unfold lead
  rw [take_succ_getD es i (0, 0) hi, List.any_append]
  simp only [List.any_cons, List.any_nil, Bool.or_false]
theorem due_eq {ds : Nat → List Int} {N : Nat} {es : List (Nat × Nat)} (h : Eqv ds N) (hN : N ≤ 200) (hval : ∀ e ∈ es, e.1 < N ∧ e.2 < N) : sd (xe ds N es) = dA (lead ds N es es.length) (lds ds N).length (lds ds N).length := by
  have hM := lds_le ds N
  have hb : ∀ e ∈ xe ds N es, e.1 < 256 ∧ e.2 < 256 := fun e he => by
    unfold xe at he
    obtain ⟨x, hx, rfl⟩ := List.mem_map.1 he
    have hm := hval x (List.mem_filter.1 hx).1
    have c1 := cn_range h hm.1
    have c2 := cn_range h hm.2
    simp only; omega
  refine strict_ext (sd_strict _) (dA_strict _ _ _) fun e => ?_
  rw [mem_sd hb, mem_dA]
  unfold xe lead
  simp only [List.mem_map, List.mem_filter, List.take_length, List.any_eq_true, decide_eq_true_eq]
  constructor
  · rintro ⟨x, ⟨hx, hne⟩, rfl⟩
    have hm := hval x hx
    have c1 := cn_range h hm.1
    have c2 := cn_range h hm.2
    refine ⟨by simp only; omega, by simp only; omega, x, hx, ?_⟩
    simp only
    omega
  · rintro ⟨h1, h2, x, hx, h3, h4, h5⟩
    refine ⟨x, ⟨hx, by omega⟩, ?_⟩
    apply Prod.ext
    · simp only; omega
    · simp only; omega
end Go.Ds
/-
  Contracts: the reference's Steps.
-/
namespace Go.Ds
open Go.Proofs Go.Plain
variable {H : Heap}

theorem steps_ok (N : Nat) (v : Value) (es : List (Nat × Nat)) (hv : Eg H v es) (hN : N ≤ 200) (he : es.length ≤ 1000) (hval : ∀ e ∈ es, e.1 < N ∧ e.2 < N) :
    Fn Try.prog 15 [I N, v] H fun r H' => ∃ (ws : Nat → Value) (rows : Nat → List Nat), (∀ i, i < N → IsS es N i (rows i)) ∧ St Try.prog H H' (⟨r, 1, (List.range N).map ws⟩ :: inner N ws rows) := by
  refine Fn.of_wp (fn := Try.f15) rfl rfl (by kernel_rfl) fun l hl => ?_
  have hn : l.length = 88 := by rw [hl]; rfl
  have g0 : get l 0 = I N := by rw [hl]; rfl
  have g1 : get l 1 = v := by rw [hl]; rfl
  clear hl
  repeat first | (with_reducible first | refine Wp.seq ?_ | refine Wp.reg ?_ | refine Wp.block ?_ | refine Wp.skip ?_ | refine Wp.ret ?_ | refine Wp.exit ?_ | refine Wp.label ?_ | refine Wp.condG ?_) | simp (disch := omega) only [↓RP, RQ, TS, TR, ↓reduceIte, Nat.reduceEqDiff, Nat.reduceLT, Nat.reduceLeDiff, Int.reduceLT, Int.reduceLE, Int.reduceEq, Int.reduceAdd, Int.reduceSub, Int.reduceNeg, Int.reduceToNat, Nat.reduceAdd, Nat.reduceMul, Nat.reduceSub, reduceCtorEq, RC, Int.cast_ofNat_Int, hn, g0, g1]
  refine Wp.loopN (fun n l H' => l.length = 88 ∧ get l 0 = I N ∧ get l 1 = v ∧ ∃ (i : Nat) (o : Value) (ws : Nat → Value) (rows : Nat → List Nat), n + i = N ∧ get l 6 = I i ∧ get l 5 = o ∧
    (∀ j, j < i → IsS es N j (rows j)) ∧ St Try.prog H H' (⟨o, 1, (List.range i).map ws⟩ :: inner i ws rows)) N ?_ ?_
  · repeat first | (with_reducible first | refine Wp.seq ?_ | refine Wp.reg ?_ | refine Wp.block ?_ | refine Wp.skip ?_ | refine Wp.ret ?_ | refine Wp.exit ?_ | refine Wp.label ?_ | refine Wp.condG ?_) | simp (disch := omega) only [↓RP, RQ, TS, TR, ↓reduceIte, Nat.reduceEqDiff, Nat.reduceLT, Nat.reduceLeDiff, Int.reduceLT, Int.reduceLE, Int.reduceEq, Int.reduceAdd, Int.reduceSub, Int.reduceNeg, Int.reduceToNat, Nat.reduceAdd, Nat.reduceMul, Nat.reduceSub, reduceCtorEq, RC, Int.cast_ofNat_Int, hn, g0, g1]
    exact ⟨0, _, fun _ => undef, fun _ => [], rfl, rfl, rfl, fun j hj => absurd hj (Nat.not_lt_zero _), by simpa [inner] using (St.refl Try.prog H).nil 0⟩
  clear hn g0 g1
  rintro n l H' ⟨hn, g0, g1, i, o, ws, rows, hi, g6, g5, hrows, hS⟩
  repeat first | (with_reducible first | refine Wp.seq ?_ | refine Wp.reg ?_ | refine Wp.block ?_ | refine Wp.skip ?_ | refine Wp.ret ?_ | refine Wp.exit ?_ | refine Wp.label ?_ | refine Wp.condG ?_) | simp (disch := omega) only [↓RP, RQ, TS, TR, ↓reduceIte, Nat.reduceEqDiff, Nat.reduceLT, Nat.reduceLeDiff, Int.reduceLT, Int.reduceLE, Int.reduceEq, Int.reduceAdd, Int.reduceSub, Int.reduceNeg, Int.reduceToNat, Nat.reduceAdd, Nat.reduceMul, Nat.reduceSub, reduceCtorEq, RC, Int.cast_ofNat_Int, hn, g0, g1, g5, g6]
  refine condW_split (fun h => ?_) (fun h => ?_)
  · have hiN : i < N := by omega
    repeat first | (with_reducible first | refine Wp.seq ?_ | refine Wp.reg ?_ | refine Wp.block ?_ | refine Wp.skip ?_ | refine Wp.ret ?_ | refine Wp.exit ?_ | refine Wp.label ?_ | refine Wp.condG ?_) | simp (disch := omega) only [↓RP, RQ, TS, TR, ↓reduceIte, Nat.reduceEqDiff, Nat.reduceLT, Nat.reduceLeDiff, Int.reduceLT, Int.reduceLE, Int.reduceEq, Int.reduceAdd, Int.reduceSub, Int.reduceNeg, Int.reduceToNat, Nat.reduceAdd, Nat.reduceMul, Nat.reduceSub, reduceCtorEq, RC, Int.cast_ofNat_Int, hn, g0, g1, g5, g6]
    refine hS.eMake1 N tM29 (by omega) fun w H2 hS => ?_
    have hS := hS.front
    repeat first | (with_reducible first | refine Wp.seq ?_ | refine Wp.reg ?_ | refine Wp.block ?_ | refine Wp.skip ?_ | refine Wp.ret ?_ | refine Wp.exit ?_ | refine Wp.label ?_ | refine Wp.condG ?_) | simp (disch := omega) only [↓RP, RQ, TS, TR, ↓reduceIte, Nat.reduceEqDiff, Nat.reduceLT, Nat.reduceLeDiff, Int.reduceLT, Int.reduceLE, Int.reduceEq, Int.reduceAdd, Int.reduceSub, Int.reduceNeg, Int.reduceToNat, Nat.reduceAdd, Nat.reduceMul, Nat.reduceSub, reduceCtorEq, RC, Int.cast_ofNat_Int, hn, g0, g1, g5, g6]
    refine Wp.loopN (fun n2 l H' => l.length = 88 ∧ get l 0 = I N ∧ get l 1 = v ∧ get l 5 = o ∧ get l 6 = I i ∧ get l 7 = w ∧ ∃ (b : Bool) (row : List Nat), get l 8 = .bool b ∧ n2 = 2 * wt N row + (if b = true then 1 else 0) ∧ RI es N i row ∧
      (b = false → ∀ e ∈ es, ¬ better i row e) ∧ St Try.prog H H' (⟨w, 1, nts row⟩ :: ⟨o, 1, (List.range i).map ws⟩ :: inner i ws rows)) (2 * wt N (List.replicate N 0) + 1) ?_ ?_
    · repeat first | (with_reducible first | refine Wp.seq ?_ | refine Wp.reg ?_ | refine Wp.block ?_ | refine Wp.skip ?_ | refine Wp.ret ?_ | refine Wp.exit ?_ | refine Wp.label ?_ | refine Wp.condG ?_) | simp (disch := omega) only [↓RP, RQ, TS, TR, ↓reduceIte, Nat.reduceEqDiff, Nat.reduceLT, Nat.reduceLeDiff, Int.reduceLT, Int.reduceLE, Int.reduceEq, Int.reduceAdd, Int.reduceSub, Int.reduceNeg, Int.reduceToNat, Nat.reduceAdd, Nat.reduceMul, Nat.reduceSub, reduceCtorEq, RC, Int.cast_ofNat_Int, hn, g0, g1, g5, g6]
      exact ⟨true, List.replicate N 0, rfl, rfl, .first es N i, (fun h => by cases h), by simpa [nts] using hS⟩
    clear hS hn g0 g1 g5 g6
    rintro n2 l H' ⟨hn, g0, g1, g5, g6, g7, b, row, g8, hn2, hR, hb, hS⟩
    repeat first | (with_reducible first | refine Wp.seq ?_ | refine Wp.reg ?_ | refine Wp.block ?_ | refine Wp.skip ?_ | refine Wp.ret ?_ | refine Wp.exit ?_ | refine Wp.label ?_ | refine Wp.condG ?_) | simp (disch := omega) only [↓RP, RQ, TS, TR, ↓reduceIte, Nat.reduceEqDiff, Nat.reduceLT, Nat.reduceLeDiff, Int.reduceLT, Int.reduceLE, Int.reduceEq, Int.reduceAdd, Int.reduceSub, Int.reduceNeg, Int.reduceToNat, Nat.reduceAdd, Nat.reduceMul, Nat.reduceSub, reduceCtorEq, RC, Int.cast_ofNat_Int, hn, g0, g1, g5, g6, g7, g8]
    refine condW_bool (fun hbt => ?_) (fun hbf => ?_)
    · subst hbt
      repeat first | (with_reducible first | refine Wp.seq ?_ | refine Wp.reg ?_ | refine Wp.block ?_ | refine Wp.skip ?_ | refine Wp.ret ?_ | refine Wp.exit ?_ | refine Wp.label ?_ | refine Wp.condG ?_) | simp (disch := omega) only [↓RP, RQ, TS, TR, ↓reduceIte, Nat.reduceEqDiff, Nat.reduceLT, Nat.reduceLeDiff, Int.reduceLT, Int.reduceLE, Int.reduceEq, Int.reduceAdd, Int.reduceSub, Int.reduceNeg, Int.reduceToNat, Nat.reduceAdd, Nat.reduceMul, Nat.reduceSub, reduceCtorEq, RC, Int.cast_ofNat_Int, hn, g0, g1, g5, g6, g7, g8]
      refine Wp.loopN (fun n3 l H' => l.length = 88 ∧ get l 0 = I N ∧ get l 1 = v ∧ get l 5 = o ∧ get l 6 = I i ∧ get l 7 = w ∧ ∃ (b : Bool) (row' : List Nat) (k : Nat), n3 + k = es.length ∧ get l 9 = I k ∧ get l 8 = .bool b ∧ RI es N i row' ∧
        (b = false → row' = row ∧ ∀ j, j < k → ¬ better i row (es.getD j (0, 0))) ∧ (b = true → wt N row' < wt N row) ∧ St Try.prog H H' (⟨w, 1, nts row'⟩ :: ⟨o, 1, (List.range i).map ws⟩ :: inner i ws rows)) es.length ?_ ?_
      · repeat first | (with_reducible first | refine Wp.seq ?_ | refine Wp.reg ?_ | refine Wp.block ?_ | refine Wp.skip ?_ | refine Wp.ret ?_ | refine Wp.exit ?_ | refine Wp.label ?_ | refine Wp.condG ?_) | simp (disch := omega) only [↓RP, RQ, TS, TR, ↓reduceIte, Nat.reduceEqDiff, Nat.reduceLT, Nat.reduceLeDiff, Int.reduceLT, Int.reduceLE, Int.reduceEq, Int.reduceAdd, Int.reduceSub, Int.reduceNeg, Int.reduceToNat, Nat.reduceAdd, Nat.reduceMul, Nat.reduceSub, reduceCtorEq, RC, Int.cast_ofNat_Int, hn, g0, g1, g5, g6, g7]
        exact ⟨false, row, 0, rfl, rfl, rfl, hR, fun _ => ⟨rfl, fun j hj => absurd hj (Nat.not_lt_zero _)⟩, (fun h => by cases h), hS⟩
      clear hS hn g0 g1 g5 g6 g7 g8
      rintro n3 l H' ⟨hn, g0, g1, g5, g6, g7, b, row', k, hk, g9, g8, hR', hbf, hbt, hS⟩
      have hv1 : Sl2 H' v _ _ es := hS.base hv
      have hw : Sl1 H' w (fun n : Nat => I n) row' := hS.rd 0 rfl
      repeat first | (with_reducible first | refine Wp.seq ?_ | refine Wp.reg ?_ | refine Wp.block ?_ | refine Wp.skip ?_ | refine Wp.ret ?_ | refine Wp.exit ?_ | refine Wp.label ?_ | refine Wp.condG ?_) | simp (disch := omega) only [↓RP, RQ, TS, TR, ↓reduceIte, Nat.reduceEqDiff, Nat.reduceLT, Nat.reduceLeDiff, Int.reduceLT, Int.reduceLE, Int.reduceEq, Int.reduceAdd, Int.reduceSub, Int.reduceNeg, Int.reduceToNat, Nat.reduceAdd, Nat.reduceMul, Nat.reduceSub, reduceCtorEq, RC, Int.cast_ofNat_Int, hn, g0, g1, g5, g6, g7, g8, g9, hv1.len]
      refine condW_split (fun h3 => ?_) (fun h3 => ?_)
      · have hm := hval _ (getD_mem (0, 0) (show k < es.length by omega))
        have hme := getD_mem (0, 0) (show k < es.length by omega)
        have hlen := hR'.len
        have hsm := hR'.small (es.getD k (0, 0)).1 hm.1
        have hnz := nz_le row'
        repeat first | (with_reducible first | refine Wp.seq ?_ | refine Wp.reg ?_ | refine Wp.block ?_ | refine Wp.skip ?_ | refine Wp.ret ?_ | refine Wp.exit ?_ | refine Wp.label ?_ | refine Wp.condG ?_) | simp (disch := omega) only [↓RP, RQ, TS, TR, ↓reduceIte, Nat.reduceEqDiff, Nat.reduceLT, Nat.reduceLeDiff, Int.reduceLT, Int.reduceLE, Int.reduceEq, Int.reduceAdd, Int.reduceSub, Int.reduceNeg, Int.reduceToNat, Nat.reduceAdd, Nat.reduceMul, Nat.reduceSub, reduceCtorEq, RC, Int.cast_ofNat_Int, hn, g0, g1, g5, g6, g7, g8, g9, hv1.idx, hv1.fld, hv1.ld0 (0, 0)]
        refine condW_cut (fun e l H2 => e = .normal ∧ H2 = H' ∧ l.length = 88 ∧ get l 0 = I N ∧ get l 1 = v ∧ get l 5 = o ∧ get l 6 = I i ∧ get l 7 = w ∧ get l 8 = .bool b ∧ get l 9 = I k ∧ get l 10 = I (offer i row' (es.getD k (0, 0)))) ?_ ?_
        · refine condW_split (fun h4 => ?_) (fun h4 => ?_)
          · have e : offer i row' (es.getD k (0, 0)) = 1 := by unfold offer; rw [if_pos (by omega)]
            repeat first | (with_reducible first | refine Wp.seq ?_ | refine Wp.reg ?_ | refine Wp.block ?_ | refine Wp.skip ?_ | refine Wp.ret ?_ | refine Wp.exit ?_ | refine Wp.label ?_ | refine Wp.condG ?_) | simp (disch := omega) only [↓RP, RQ, TS, TR, ↓reduceIte, Nat.reduceEqDiff, Nat.reduceLT, Nat.reduceLeDiff, Int.reduceLT, Int.reduceLE, Int.reduceEq, Int.reduceAdd, Int.reduceSub, Int.reduceNeg, Int.reduceToNat, Nat.reduceAdd, Nat.reduceMul, Nat.reduceSub, reduceCtorEq, RC, Int.cast_ofNat_Int, hn, g0, g1, g5, g6, g7, g8, g9, e]
            try rfl
          · repeat first | (with_reducible first | refine Wp.seq ?_ | refine Wp.reg ?_ | refine Wp.block ?_ | refine Wp.skip ?_ | refine Wp.ret ?_ | refine Wp.exit ?_ | refine Wp.label ?_ | refine Wp.condG ?_) | simp (disch := omega) only [↓RP, RQ, TS, TR, ↓reduceIte, Nat.reduceEqDiff, Nat.reduceLT, Nat.reduceLeDiff, Int.reduceLT, Int.reduceLE, Int.reduceEq, Int.reduceAdd, Int.reduceSub, Int.reduceNeg, Int.reduceToNat, Nat.reduceAdd, Nat.reduceMul, Nat.reduceSub, reduceCtorEq, RC, Int.cast_ofNat_Int, hn, g0, g1, g5, g6, g7, g8, g9, hv1.idx, hv1.fld, hv1.ld0 (0, 0), hw.idx, hw.ld 0]
            refine condW_split (fun h5 => ?_) (fun h5 => ?_)
            · have e : offer i row' (es.getD k (0, 0)) = row'.getD (es.getD k (0, 0)).1 0 + 1 := by unfold offer; rw [if_neg (by omega), if_pos (by omega)]
              repeat first | (with_reducible first | refine Wp.seq ?_ | refine Wp.reg ?_ | refine Wp.block ?_ | refine Wp.skip ?_ | refine Wp.ret ?_ | refine Wp.exit ?_ | refine Wp.label ?_ | refine Wp.condG ?_) | simp (disch := omega) only [↓RP, RQ, TS, TR, ↓reduceIte, Nat.reduceEqDiff, Nat.reduceLT, Nat.reduceLeDiff, Int.reduceLT, Int.reduceLE, Int.reduceEq, Int.reduceAdd, Int.reduceSub, Int.reduceNeg, Int.reduceToNat, Nat.reduceAdd, Nat.reduceMul, Nat.reduceSub, reduceCtorEq, RC, Int.cast_ofNat_Int, hn, g0, g1, g5, g6, g7, g8, g9, hv1.idx, hv1.fld, hv1.ld0 (0, 0), hw.idx, hw.ld 0, e, wrap_fit]
              try rfl
            · have e : offer i row' (es.getD k (0, 0)) = 0 := by unfold offer; rw [if_neg (by omega), if_neg (by omega)]
              repeat first | (with_reducible first | refine Wp.seq ?_ | refine Wp.reg ?_ | refine Wp.block ?_ | refine Wp.skip ?_ | refine Wp.ret ?_ | refine Wp.exit ?_ | refine Wp.label ?_ | refine Wp.condG ?_) | simp (disch := omega) only [↓RP, RQ, TS, TR, ↓reduceIte, Nat.reduceEqDiff, Nat.reduceLT, Nat.reduceLeDiff, Int.reduceLT, Int.reduceLE, Int.reduceEq, Int.reduceAdd, Int.reduceSub, Int.reduceNeg, Int.reduceToNat, Nat.reduceAdd, Nat.reduceMul, Nat.reduceSub, reduceCtorEq, RC, Int.cast_ofNat_Int, hn, g0, g1, g5, g6, g7, g8, g9, e]
              try rfl
        clear hn g0 g1 g5 g6 g7 g8 g9
        rintro e l H2 ⟨rfl, rfl, hn, g0, g1, g5, g6, g7, g8, g9, g10⟩
        repeat first | (with_reducible first | refine Wp.seq ?_ | refine Wp.reg ?_ | refine Wp.block ?_ | refine Wp.skip ?_ | refine Wp.ret ?_ | refine Wp.exit ?_ | refine Wp.label ?_ | refine Wp.condG ?_) | simp (disch := omega) only [↓RP, RQ, TS, TR, ↓reduceIte, Nat.reduceEqDiff, Nat.reduceLT, Nat.reduceLeDiff, Int.reduceLT, Int.reduceLE, Int.reduceEq, Int.reduceAdd, Int.reduceSub, Int.reduceNeg, Int.reduceToNat, Nat.reduceAdd, Nat.reduceMul, Nat.reduceSub, reduceCtorEq, RC, Int.cast_ofNat_Int, hn, g0, g1, g5, g6, g7, g8, g9, g10]
        refine letG_split (fun h6 => ?_) (fun h6 => ?_)
        · repeat first | (with_reducible first | refine Wp.seq ?_ | refine Wp.reg ?_ | refine Wp.block ?_ | refine Wp.skip ?_ | refine Wp.ret ?_ | refine Wp.exit ?_ | refine Wp.label ?_ | refine Wp.condG ?_) | simp (disch := omega) only [↓RP, RQ, TS, TR, ↓reduceIte, Nat.reduceEqDiff, Nat.reduceLT, Nat.reduceLeDiff, Int.reduceLT, Int.reduceLE, Int.reduceEq, Int.reduceAdd, Int.reduceSub, Int.reduceNeg, Int.reduceToNat, Nat.reduceAdd, Nat.reduceMul, Nat.reduceSub, reduceCtorEq, RC, Int.cast_ofNat_Int, hn, g0, g1, g5, g6, g7, g8, g9, g10, h6, hv1.idx, hv1.fld, hv1.ld0 (0, 0), hv1.ld1 (0, 0), hw.idx, hw.ld 0]
          refine letG_split' (fun h7 => ?_) (fun h7 => ?_)
          · have hb6 : better i row' (es.getD k (0, 0)) := ⟨by omega, .inl (by omega)⟩
            have hlt := hm.2
            have hst := hR'.step _ hme hm.1 hm.2 hb6
            repeat first | (with_reducible first | refine Wp.seq ?_ | refine Wp.reg ?_ | refine Wp.block ?_ | refine Wp.skip ?_ | refine Wp.ret ?_ | refine Wp.exit ?_ | refine Wp.label ?_ | refine Wp.condG ?_) | simp (disch := omega) only [↓RP, RQ, TS, TR, ↓reduceIte, Nat.reduceEqDiff, Nat.reduceLT, Nat.reduceLeDiff, Int.reduceLT, Int.reduceLE, Int.reduceEq, Int.reduceAdd, Int.reduceSub, Int.reduceNeg, Int.reduceToNat, Nat.reduceAdd, Nat.reduceMul, Nat.reduceSub, reduceCtorEq, RC, Int.cast_ofNat_Int, hn, g0, g1, g5, g6, g7, g8, g9, g10, h6, h7, hv1.idx, hv1.fld, hv1.ld0 (0, 0), hv1.ld1 (0, 0), hw.idx, hw.ld 0]
            refine hS.eStoreE 0 rfl [_] rfl rfl tS3 (by simp) (by simp only [nts, List.length_map, List.length_cons, List.length_nil]; omega) fun H5 hS => ?_
            simp only [List.nil_append, List.cons_append, List.append_nil, List.set_cons_zero, List.set_cons_succ, setMany_cons, setMany_nil, Nat.zero_add, Nat.mul_one, Nat.add_zero] at hS
            rw [show (nts row').set (es.getD k (0, 0)).2 (I (offer i row' (es.getD k (0, 0)))) = nts (row'.set (es.getD k (0, 0)).2 (offer i row' (es.getD k (0, 0)))) from (List.map_set ..).symm] at hS
            repeat first | (with_reducible first | refine Wp.seq ?_ | refine Wp.reg ?_ | refine Wp.block ?_ | refine Wp.skip ?_ | refine Wp.ret ?_ | refine Wp.exit ?_ | refine Wp.label ?_ | refine Wp.condG ?_) | simp (disch := omega) only [↓RP, RQ, TS, TR, ↓reduceIte, Nat.reduceEqDiff, Nat.reduceLT, Nat.reduceLeDiff, Int.reduceLT, Int.reduceLE, Int.reduceEq, Int.reduceAdd, Int.reduceSub, Int.reduceNeg, Int.reduceToNat, Nat.reduceAdd, Nat.reduceMul, Nat.reduceSub, reduceCtorEq, RC, Int.cast_ofNat_Int, hn, g0, g1, g5, g6, g7, g8, g9, g10, wrap_fit]
            refine ⟨n3 - 1, by omega, true, _, k + 1, by omega, rfl, rfl, hst.1, (fun h => by cases h), (fun _ => ?_), hS⟩
            cases b with
            | true => exact Nat.lt_trans hst.2 (hbt rfl)
            | false => rw [(hbf rfl).1] at hst ⊢; exact hst.2
          · repeat first | (with_reducible first | refine Wp.seq ?_ | refine Wp.reg ?_ | refine Wp.block ?_ | refine Wp.skip ?_ | refine Wp.ret ?_ | refine Wp.exit ?_ | refine Wp.label ?_ | refine Wp.condG ?_) | simp (disch := omega) only [↓RP, RQ, TS, TR, ↓reduceIte, Nat.reduceEqDiff, Nat.reduceLT, Nat.reduceLeDiff, Int.reduceLT, Int.reduceLE, Int.reduceEq, Int.reduceAdd, Int.reduceSub, Int.reduceNeg, Int.reduceToNat, Nat.reduceAdd, Nat.reduceMul, Nat.reduceSub, reduceCtorEq, RC, Int.cast_ofNat_Int, hn, g0, g1, g5, g6, g7, g8, g9, g10, h6, h7, hv1.idx, hv1.fld, hv1.ld0 (0, 0), hv1.ld1 (0, 0), hw.idx, hw.ld 0]
            refine condW_split (fun h8 => ?_) (fun h8 => ?_)
            · have hb6 : better i row' (es.getD k (0, 0)) := ⟨by omega, .inr (by omega)⟩
              have hlt := hm.2
              have hst := hR'.step _ hme hm.1 hm.2 hb6
              repeat first | (with_reducible first | refine Wp.seq ?_ | refine Wp.reg ?_ | refine Wp.block ?_ | refine Wp.skip ?_ | refine Wp.ret ?_ | refine Wp.exit ?_ | refine Wp.label ?_ | refine Wp.condG ?_) | simp (disch := omega) only [↓RP, RQ, TS, TR, ↓reduceIte, Nat.reduceEqDiff, Nat.reduceLT, Nat.reduceLeDiff, Int.reduceLT, Int.reduceLE, Int.reduceEq, Int.reduceAdd, Int.reduceSub, Int.reduceNeg, Int.reduceToNat, Nat.reduceAdd, Nat.reduceMul, Nat.reduceSub, reduceCtorEq, RC, Int.cast_ofNat_Int, hn, g0, g1, g5, g6, g7, g8, g9, g10, h6, h7, hv1.idx, hv1.fld, hv1.ld0 (0, 0), hv1.ld1 (0, 0), hw.idx, hw.ld 0]
              refine hS.eStoreE 0 rfl [_] rfl rfl tS3 (by simp) (by simp only [nts, List.length_map, List.length_cons, List.length_nil]; omega) fun H5 hS => ?_
              simp only [List.nil_append, List.cons_append, List.append_nil, List.set_cons_zero, List.set_cons_succ, setMany_cons, setMany_nil, Nat.zero_add, Nat.mul_one, Nat.add_zero] at hS
              rw [show (nts row').set (es.getD k (0, 0)).2 (I (offer i row' (es.getD k (0, 0)))) = nts (row'.set (es.getD k (0, 0)).2 (offer i row' (es.getD k (0, 0)))) from (List.map_set ..).symm] at hS
              repeat first | (with_reducible first | refine Wp.seq ?_ | refine Wp.reg ?_ | refine Wp.block ?_ | refine Wp.skip ?_ | refine Wp.ret ?_ | refine Wp.exit ?_ | refine Wp.label ?_ | refine Wp.condG ?_) | simp (disch := omega) only [↓RP, RQ, TS, TR, ↓reduceIte, Nat.reduceEqDiff, Nat.reduceLT, Nat.reduceLeDiff, Int.reduceLT, Int.reduceLE, Int.reduceEq, Int.reduceAdd, Int.reduceSub, Int.reduceNeg, Int.reduceToNat, Nat.reduceAdd, Nat.reduceMul, Nat.reduceSub, reduceCtorEq, RC, Int.cast_ofNat_Int, hn, g0, g1, g5, g6, g7, g8, g9, g10, wrap_fit]
              refine ⟨n3 - 1, by omega, true, _, k + 1, by omega, rfl, rfl, hst.1, (fun h => by cases h), (fun _ => ?_), hS⟩
              cases b with
              | true => exact Nat.lt_trans hst.2 (hbt rfl)
              | false => rw [(hbf rfl).1] at hst ⊢; exact hst.2
            · have hnb : ¬ better i row' (es.getD k (0, 0)) := fun hh => by
                rcases hh.2 with h9 | h9 <;> omega
              skip
              repeat first | (with_reducible first | refine Wp.seq ?_ | refine Wp.reg ?_ | refine Wp.block ?_ | refine Wp.skip ?_ | refine Wp.ret ?_ | refine Wp.exit ?_ | refine Wp.label ?_ | refine Wp.condG ?_) | simp (disch := omega) only [↓RP, RQ, TS, TR, ↓reduceIte, Nat.reduceEqDiff, Nat.reduceLT, Nat.reduceLeDiff, Int.reduceLT, Int.reduceLE, Int.reduceEq, Int.reduceAdd, Int.reduceSub, Int.reduceNeg, Int.reduceToNat, Nat.reduceAdd, Nat.reduceMul, Nat.reduceSub, reduceCtorEq, RC, Int.cast_ofNat_Int, hn, g0, g1, g5, g6, g7, g8, g9, g10, h6, wrap_fit]
              refine ⟨n3 - 1, by omega, b, row', k + 1, by omega, rfl, rfl, hR', (fun h => ?_), hbt, hS⟩
              obtain ⟨e1, e2⟩ := hbf h
              subst e1
              refine ⟨rfl, fun j hj => ?_⟩
              by_cases e : j = k
              · subst e; exact hnb
              · exact e2 j (by omega)
        · have hnb : ¬ better i row' (es.getD k (0, 0)) := fun hh => by have := hh.1; omega
          skip
          repeat first | (with_reducible first | refine Wp.seq ?_ | refine Wp.reg ?_ | refine Wp.block ?_ | refine Wp.skip ?_ | refine Wp.ret ?_ | refine Wp.exit ?_ | refine Wp.label ?_ | refine Wp.condG ?_) | simp (disch := omega) only [↓RP, RQ, TS, TR, ↓reduceIte, Nat.reduceEqDiff, Nat.reduceLT, Nat.reduceLeDiff, Int.reduceLT, Int.reduceLE, Int.reduceEq, Int.reduceAdd, Int.reduceSub, Int.reduceNeg, Int.reduceToNat, Nat.reduceAdd, Nat.reduceMul, Nat.reduceSub, reduceCtorEq, RC, Int.cast_ofNat_Int, hn, g0, g1, g5, g6, g7, g8, g9, g10, h6, wrap_fit]
          refine ⟨n3 - 1, by omega, b, row', k + 1, by omega, rfl, rfl, hR', (fun h => ?_), hbt, hS⟩
          obtain ⟨e1, e2⟩ := hbf h
          subst e1
          refine ⟨rfl, fun j hj => ?_⟩
          by_cases e : j = k
          · subst e; exact hnb
          · exact e2 j (by omega)
      · repeat first | (with_reducible first | refine Wp.seq ?_ | refine Wp.reg ?_ | refine Wp.block ?_ | refine Wp.skip ?_ | refine Wp.ret ?_ | refine Wp.exit ?_ | refine Wp.label ?_ | refine Wp.condG ?_) | simp (disch := omega) only [↓RP, RQ, TS, TR, ↓reduceIte, Nat.reduceEqDiff, Nat.reduceLT, Nat.reduceLeDiff, Int.reduceLT, Int.reduceLE, Int.reduceEq, Int.reduceAdd, Int.reduceSub, Int.reduceNeg, Int.reduceToNat, Nat.reduceAdd, Nat.reduceMul, Nat.reduceSub, reduceCtorEq, RC, Int.cast_ofNat_Int, hn, g0, g1, g5, g6, g7, g8, g9]
        cases b with
        | true =>
          have := hbt rfl
          refine ⟨_, ?_, true, row', rfl, rfl, hR', (fun h => by cases h), hS⟩
          rw [hn2]
          simp
          omega
        | false =>
          obtain ⟨e1, e2⟩ := hbf rfl
          subst e1
          refine ⟨_, ?_, false, row', rfl, rfl, hR', (fun _ e he => ?_), hS⟩
          · rw [hn2]; simp
          · obtain ⟨j, hj, rfl⟩ := List.getElem_of_mem he
            have := e2 j (by omega)
            rwa [List.getD_eq_getElem?_getD, List.getElem?_eq_getElem hj] at this
    · subst hbf
      have hw := (hS.rd 0 rfl).cells
      repeat first | (with_reducible first | refine Wp.seq ?_ | refine Wp.reg ?_ | refine Wp.block ?_ | refine Wp.skip ?_ | refine Wp.ret ?_ | refine Wp.exit ?_ | refine Wp.label ?_ | refine Wp.condG ?_) | simp (disch := omega) only [↓RP, RQ, TS, TR, ↓reduceIte, Nat.reduceEqDiff, Nat.reduceLT, Nat.reduceLeDiff, Int.reduceLT, Int.reduceLE, Int.reduceEq, Int.reduceAdd, Int.reduceSub, Int.reduceNeg, Int.reduceToNat, Nat.reduceAdd, Nat.reduceMul, Nat.reduceSub, reduceCtorEq, RC, Int.cast_ofNat_Int, hn, g0, g1, g5, g6, g7, g8]
      refine hS.eSlice [w] tP33 tF33 rfl rfl (by simp [hw.1]) (by simp [hw.1]) (by simp [hw.2.1]) (by decide) (by decide) fun x H2 hS => ?_
      have hS := hS.front
      repeat first | (with_reducible first | refine Wp.seq ?_ | refine Wp.reg ?_ | refine Wp.block ?_ | refine Wp.skip ?_ | refine Wp.ret ?_ | refine Wp.exit ?_ | refine Wp.label ?_ | refine Wp.condG ?_) | simp (disch := omega) only [↓RP, RQ, TS, TR, ↓reduceIte, Nat.reduceEqDiff, Nat.reduceLT, Nat.reduceLeDiff, Int.reduceLT, Int.reduceLE, Int.reduceEq, Int.reduceAdd, Int.reduceSub, Int.reduceNeg, Int.reduceToNat, Nat.reduceAdd, Nat.reduceMul, Nat.reduceSub, reduceCtorEq, RC, Int.cast_ofNat_Int, hn, g0, g1, g5, g6, g7, g8]
      refine hS.eAppend 2 rfl (hS.rd 0 rfl) tP33 (by simp only [List.length_map, List.length_range, List.length_cons, List.length_nil]; omega) fun o' H3 hS => ?_
      simp only [List.nil_append, List.cons_append, List.append_nil, List.set_cons_zero, List.set_cons_succ, setMany_cons, setMany_nil, Nat.zero_add, Nat.mul_one, Nat.add_zero] at hS
      repeat first | (with_reducible first | refine Wp.seq ?_ | refine Wp.reg ?_ | refine Wp.block ?_ | refine Wp.skip ?_ | refine Wp.ret ?_ | refine Wp.exit ?_ | refine Wp.label ?_ | refine Wp.condG ?_) | simp (disch := omega) only [↓RP, RQ, TS, TR, ↓reduceIte, Nat.reduceEqDiff, Nat.reduceLT, Nat.reduceLeDiff, Int.reduceLT, Int.reduceLE, Int.reduceEq, Int.reduceAdd, Int.reduceSub, Int.reduceNeg, Int.reduceToNat, Nat.reduceAdd, Nat.reduceMul, Nat.reduceSub, reduceCtorEq, RC, Int.cast_ofNat_Int, hn, g0, g1, g5, g6, g7, g8, wrap_fit]
      refine ⟨n - 1, by omega, i + 1, o', upd ws i w, upd rows i row, by omega, rfl, rfl, ?_, ?_⟩
      · intro j hj
        unfold upd
        split
        · rename_i e; rw [e]; exact hR.last hiN hval (hb rfl)
        · exact hrows j (by omega)
      · have hS := hS.tail
        have e1 : (List.range (i + 1)).map (upd ws i w) = (List.range i).map ws ++ [w] := by
          rw [List.range_succ, List.map_append]
          congr 1
          · exact List.map_congr_left fun j hj => by
              have := List.mem_range.1 hj
              unfold upd; rw [if_neg (by omega)]
          · simp [upd]
        have e2 : inner (i + 1) (upd ws i w) (upd rows i row) = inner i ws rows ++ [⟨w, 1, nts row⟩] := by
          unfold inner
          rw [List.range_succ, List.map_append]
          congr 1
          · exact List.map_congr_left fun j hj => by
              have := List.mem_range.1 hj
              unfold upd; rw [if_neg (by omega), if_neg (by omega)]
          · simp [upd]
        rw [e1, e2]
        exact hS.perm (by
          refine List.Perm.trans (List.Perm.swap _ _ _) (List.Perm.cons _ ?_)
          exact (List.perm_append_singleton _ _).symm)
  · repeat first | (with_reducible first | refine Wp.seq ?_ | refine Wp.reg ?_ | refine Wp.block ?_ | refine Wp.skip ?_ | refine Wp.ret ?_ | refine Wp.exit ?_ | refine Wp.label ?_ | refine Wp.condG ?_) | simp (disch := omega) only [↓RP, RQ, TS, TR, ↓reduceIte, Nat.reduceEqDiff, Nat.reduceLT, Nat.reduceLeDiff, Int.reduceLT, Int.reduceLE, Int.reduceEq, Int.reduceAdd, Int.reduceSub, Int.reduceNeg, Int.reduceToNat, Nat.reduceAdd, Nat.reduceMul, Nat.reduceSub, reduceCtorEq, RC, Int.cast_ofNat_Int, hn, g0, g1, g5, g6]
    have e : i = N := by omega
    subst e
    exact ⟨ws, rows, hrows, hS⟩
end Go.Ds
/-
  The worked example of the layer: a closed run, by the kernel.
-/
namespace Go.Ds
open Go.Proofs

noncomputable def knownRun : Bool := match callF Try.prog (exD Try.prog 3000) 12 [] .nil with
  | some (.bool true, _) => true
  | _ => false
theorem knownRuns : knownRun = true := by kernel_rfl

theorem known_ok (H : Heap) : Fn Try.prog 12 [] H fun r H' => r = .bool true ∧ H' = H := by
  have h := knownRuns
  unfold knownRun at h
  split at h
  · rename_i H1 hr
    exact ⟨⟨Try.f12, rfl, rfl, by kernel_rfl⟩, _, H, CallOk.closed (by rfl) (CallOk.of_run hmix hr) H, rfl, rfl⟩
  · cases h
end Go.Ds
/-
  The law on Reach and Distance: its walk.
-/
namespace Go.Ds
open Go.Proofs Go.Plain
variable {H : Heap}

theorem mkE_length (a : Nat) (ls : List (Nat × Nat)) : (mkE a ls).length = ls.length := by simp [mkE]
theorem mkE_val (a : Nat) (ls : List (Nat × Nat)) : ∀ e ∈ mkE a ls, e.1 < mkN a ∧ e.2 < mkN a := by
  intro e he
  obtain ⟨x, _, rfl⟩ := List.mem_map.1 he
  have : 0 < mkN a := by unfold mkN; omega
  exact ⟨Nat.mod_lt _ this, Nat.mod_lt _ this⟩
theorem mkN_pos (a : Nat) : 0 < mkN a ∧ mkN a ≤ 7 := by unfold mkN; omega

theorem reaches_ok (a c : Nat) (ha : a < 256) (hc : c < 256) (v : Value) (ls : List (Nat × Nat)) (hv : Lk H v ls) (hb : ∀ x ∈ ls, x.1 < 256 ∧ x.2 < 256) : Fn Try.prog 6 [U a, v, U c] H fun r H' => r = .bool true := by
  refine Fn.of_wp (fn := Try.f6) rfl rfl (by kernel_rfl) fun l hl => ?_
  have hn : l.length = 107 := by rw [hl]; rfl
  have g0 : get l 0 = U a := by rw [hl]; rfl
  have g1 : get l 1 = v := by rw [hl]; rfl
  have g2 : get l 2 = U c := by rw [hl]; rfl
  clear hl
  have hv0 : Sl2 H v _ _ ls := hv
  repeat first | (with_reducible first | refine Wp.seq ?_ | refine Wp.reg ?_ | refine Wp.block ?_ | refine Wp.skip ?_ | refine Wp.ret ?_ | refine Wp.exit ?_ | refine Wp.label ?_ | refine Wp.condG ?_) | simp (disch := omega) only [↓RP, RQ, TS, TR, ↓reduceIte, Nat.reduceEqDiff, Nat.reduceLT, Nat.reduceLeDiff, Int.reduceLT, Int.reduceLE, Int.reduceEq, Int.reduceAdd, Int.reduceSub, Int.reduceNeg, Int.reduceToNat, Nat.reduceAdd, Nat.reduceMul, Nat.reduceSub, reduceCtorEq, RC, Int.cast_ofNat_Int, hn, g0, g1, g2]
  refine callFW_of (known_ok H) ?_
  rintro r H1 ⟨rfl, rfl⟩
  repeat first | (with_reducible first | refine Wp.seq ?_ | refine Wp.reg ?_ | refine Wp.block ?_ | refine Wp.skip ?_ | refine Wp.ret ?_ | refine Wp.exit ?_ | refine Wp.label ?_ | refine Wp.condG ?_) | simp (disch := omega) only [↓RP, RQ, TS, TR, ↓reduceIte, Nat.reduceEqDiff, Nat.reduceLT, Nat.reduceLeDiff, Int.reduceLT, Int.reduceLE, Int.reduceEq, Int.reduceAdd, Int.reduceSub, Int.reduceNeg, Int.reduceToNat, Nat.reduceAdd, Nat.reduceMul, Nat.reduceSub, reduceCtorEq, RC, Int.cast_ofNat_Int, hn, g0, g1, g2, hv0.len]
  refine condW_split (fun h => ?_) (fun h => ?_)
  · repeat first | (with_reducible first | refine Wp.seq ?_ | refine Wp.reg ?_ | refine Wp.block ?_ | refine Wp.skip ?_ | refine Wp.ret ?_ | refine Wp.exit ?_ | refine Wp.label ?_ | refine Wp.condG ?_) | simp (disch := omega) only [↓RP, RQ, TS, TR, ↓reduceIte, Nat.reduceEqDiff, Nat.reduceLT, Nat.reduceLeDiff, Int.reduceLT, Int.reduceLE, Int.reduceEq, Int.reduceAdd, Int.reduceSub, Int.reduceNeg, Int.reduceToNat, Nat.reduceAdd, Nat.reduceMul, Nat.reduceSub, reduceCtorEq, RC, Int.cast_ofNat_Int, hn, g0, g1, g2]
    refine callFW_of (known_ok _) ?_
    rintro r H1 ⟨rfl, rfl⟩
    repeat first | (with_reducible first | refine Wp.seq ?_ | refine Wp.reg ?_ | refine Wp.block ?_ | refine Wp.skip ?_ | refine Wp.ret ?_ | refine Wp.exit ?_ | refine Wp.label ?_ | refine Wp.condG ?_) | simp (disch := omega) only [↓RP, RQ, TS, TR, ↓reduceIte, Nat.reduceEqDiff, Nat.reduceLT, Nat.reduceLeDiff, Int.reduceLT, Int.reduceLE, Int.reduceEq, Int.reduceAdd, Int.reduceSub, Int.reduceNeg, Int.reduceToNat, Nat.reduceAdd, Nat.reduceMul, Nat.reduceSub, reduceCtorEq, RC, Int.cast_ofNat_Int, hn, g0, g1, g2]
  repeat first | (with_reducible first | refine Wp.seq ?_ | refine Wp.reg ?_ | refine Wp.block ?_ | refine Wp.skip ?_ | refine Wp.ret ?_ | refine Wp.exit ?_ | refine Wp.label ?_ | refine Wp.condG ?_) | simp (disch := omega) only [↓RP, RQ, TS, TR, ↓reduceIte, Nat.reduceEqDiff, Nat.reduceLT, Nat.reduceLeDiff, Int.reduceLT, Int.reduceLE, Int.reduceEq, Int.reduceAdd, Int.reduceSub, Int.reduceNeg, Int.reduceToNat, Nat.reduceAdd, Nat.reduceMul, Nat.reduceSub, reduceCtorEq, RC, Int.cast_ofNat_Int, hn, g0, g1, g2]
  refine callFW_of (make_ok a ha v ls hv (by omega) hb) ?_
  rintro r H2 ⟨w, rfl, hE, _⟩
  have hN := mkN_pos a
  have hval := mkE_val a ls
  have hl := mkE_length a ls
  generalize mkE a ls = es at hE hval hl
  generalize mkN a = N at hE hval hN
  have hs : c % N < N := Nat.mod_lt _ hN.1
  repeat first | (with_reducible first | refine Wp.seq ?_ | refine Wp.reg ?_ | refine Wp.block ?_ | refine Wp.skip ?_ | refine Wp.ret ?_ | refine Wp.exit ?_ | refine Wp.label ?_ | refine Wp.condG ?_) | simp (disch := omega) only [↓RP, RQ, TS, TR, ↓reduceIte, Nat.reduceEqDiff, Nat.reduceLT, Nat.reduceLeDiff, Int.reduceLT, Int.reduceLE, Int.reduceEq, Int.reduceAdd, Int.reduceSub, Int.reduceNeg, Int.reduceToNat, Nat.reduceAdd, Nat.reduceMul, Nat.reduceSub, reduceCtorEq, RC, Int.cast_ofNat_Int, hn, g0, g1, g2]
  refine (St.refl _ H2).eNew 2 [I 0, .slice none 0 0] rfl rfl rfl tS27 fun A H3 hS => ?_
  repeat first | (with_reducible first | refine Wp.seq ?_ | refine Wp.reg ?_ | refine Wp.block ?_ | refine Wp.skip ?_ | refine Wp.ret ?_ | refine Wp.exit ?_ | refine Wp.label ?_ | refine Wp.condG ?_) | simp (disch := omega) only [↓RP, RQ, TS, TR, ↓reduceIte, Nat.reduceEqDiff, Nat.reduceLT, Nat.reduceLeDiff, Int.reduceLT, Int.reduceLE, Int.reduceEq, Int.reduceAdd, Int.reduceSub, Int.reduceNeg, Int.reduceToNat, Nat.reduceAdd, Nat.reduceMul, Nat.reduceSub, reduceCtorEq, RC, Int.cast_ofNat_Int, hn, g0, g1, g2]
  refine hS.eStore 0 rfl [I N, w] rfl (by simp [hE.one]; rfl) tS27 (by simp) fun H4 hS => ?_
  simp only [List.nil_append, List.cons_append, List.append_nil, List.set_cons_zero, List.set_cons_succ, setMany_cons, setMany_nil, Nat.zero_add, Nat.mul_one, Nat.add_zero] at hS
  repeat first | (with_reducible first | refine Wp.seq ?_ | refine Wp.reg ?_ | refine Wp.block ?_ | refine Wp.skip ?_ | refine Wp.ret ?_ | refine Wp.exit ?_ | refine Wp.label ?_ | refine Wp.condG ?_) | simp (disch := omega) only [↓RP, RQ, TS, TR, ↓reduceIte, Nat.reduceEqDiff, Nat.reduceLT, Nat.reduceLeDiff, Int.reduceLT, Int.reduceLE, Int.reduceEq, Int.reduceAdd, Int.reduceSub, Int.reduceNeg, Int.reduceToNat, Nat.reduceAdd, Nat.reduceMul, Nat.reduceSub, reduceCtorEq, RC, Int.cast_ofNat_Int, hn, g0, g1, g2, hS.ld 0 rfl, wrap_fit, tmod_nat, hS.ldA 0 rfl]
  generalize c % N = s at hs
  refine callFW_of (reach_ok N w es (hS.base hE) (by omega) (by omega) hval s hs) ?_
  rintro r H5 ⟨d, wr, rfl, hd, hS5⟩
  have hS := hS.trans hS5
  simp only [List.nil_append, List.cons_append, List.append_nil, List.set_cons_zero, List.set_cons_succ, setMany_cons, setMany_nil, Nat.zero_add, Nat.mul_one, Nat.add_zero] at hS
  repeat first | (with_reducible first | refine Wp.seq ?_ | refine Wp.reg ?_ | refine Wp.block ?_ | refine Wp.skip ?_ | refine Wp.ret ?_ | refine Wp.exit ?_ | refine Wp.label ?_ | refine Wp.condG ?_) | simp (disch := omega) only [↓RP, RQ, TS, TR, ↓reduceIte, Nat.reduceEqDiff, Nat.reduceLT, Nat.reduceLeDiff, Int.reduceLT, Int.reduceLE, Int.reduceEq, Int.reduceAdd, Int.reduceSub, Int.reduceNeg, Int.reduceToNat, Nat.reduceAdd, Nat.reduceMul, Nat.reduceSub, reduceCtorEq, RC, Int.cast_ofNat_Int, hn, g0, g1, g2, hS.ldA 0 rfl]
  refine callFW_of (distance_ok N w es (hS.base hE) (by omega) (by omega) hval s hs) ?_
  rintro r H6 ⟨d', wd, rfl, hd', hS6⟩
  obtain rfl := hd.eq hd'
  have hS6 := hS.trans hS6
  simp only [List.nil_append, List.cons_append, List.append_nil, List.set_cons_zero, List.set_cons_succ, setMany_cons, setMany_nil, Nat.zero_add, Nat.mul_one, Nat.add_zero] at hS6
  repeat first | (with_reducible first | refine Wp.seq ?_ | refine Wp.reg ?_ | refine Wp.block ?_ | refine Wp.skip ?_ | refine Wp.ret ?_ | refine Wp.exit ?_ | refine Wp.label ?_ | refine Wp.condG ?_) | simp (disch := omega) only [↓RP, RQ, TS, TR, ↓reduceIte, Nat.reduceEqDiff, Nat.reduceLT, Nat.reduceLeDiff, Int.reduceLT, Int.reduceLE, Int.reduceEq, Int.reduceAdd, Int.reduceSub, Int.reduceNeg, Int.reduceToNat, Nat.reduceAdd, Nat.reduceMul, Nat.reduceSub, reduceCtorEq, RC, Int.cast_ofNat_Int, hn, g0, g1, g2]
  refine Wp.drwT hmix [(1, 4)] (by kernel_rfl) (by kernel_rfl) ?_
  repeat first | (with_reducible first | refine Wp.seq ?_ | refine Wp.reg ?_ | refine Wp.block ?_ | refine Wp.skip ?_ | refine Wp.ret ?_ | refine Wp.exit ?_ | refine Wp.label ?_ | refine Wp.condG ?_) | simp (disch := omega) only [↓RP, RQ, TS, TR, ↓reduceIte, Nat.reduceEqDiff, Nat.reduceLT, Nat.reduceLeDiff, Int.reduceLT, Int.reduceLE, Int.reduceEq, Int.reduceAdd, Int.reduceSub, Int.reduceNeg, Int.reduceToNat, Nat.reduceAdd, Nat.reduceMul, Nat.reduceSub, reduceCtorEq, RC, Int.cast_ofNat_Int, hn, g0, g1, g2, hS6.ldA 0 rfl, hS6.ld 0 rfl]
  refine callFW_of (edges_ok N w es (hS6.base hE) (by omega)) ?_
  rintro ev H7 ⟨hEv, hS7⟩
  have hS7 := hS6.trans hS7
  simp only [List.nil_append, List.cons_append, List.append_nil, List.set_cons_zero, List.set_cons_succ, setMany_cons, setMany_nil, Nat.zero_add, Nat.mul_one, Nat.add_zero] at hS7
  repeat first | (with_reducible first | refine Wp.seq ?_ | refine Wp.reg ?_ | refine Wp.block ?_ | refine Wp.skip ?_ | refine Wp.ret ?_ | refine Wp.exit ?_ | refine Wp.label ?_ | refine Wp.condG ?_) | simp (disch := omega) only [↓RP, RQ, TS, TR, ↓reduceIte, Nat.reduceEqDiff, Nat.reduceLT, Nat.reduceLeDiff, Int.reduceLT, Int.reduceLE, Int.reduceEq, Int.reduceAdd, Int.reduceSub, Int.reduceNeg, Int.reduceToNat, Nat.reduceAdd, Nat.reduceMul, Nat.reduceSub, reduceCtorEq, RC, Int.cast_ofNat_Int, hn, g0, g1, g2]
  refine callFW_of (steps_ok N ev es hEv (by omega) (by omega) hval) ?_
  rintro st H8 ⟨ws, rows, hrows, hS8⟩
  have hS8 := hS7.trans hS8
  simp only [List.nil_append, List.cons_append, List.append_nil, List.set_cons_zero, List.set_cons_succ, setMany_cons, setMany_nil, Nat.zero_add, Nat.mul_one, Nat.add_zero] at hS8
  have hwd : Sl1 H8 wd (.int .i64) d := hS8.rd 2 rfl
  have hwr : Sl1 H8 wr (fun n : Nat => I n) ((List.range N).filter fun k => decide (0 ≤ d.getD k 0)) := hS8.rd 1 rfl
  have hst : Sl1 H8 st ws (List.range N) := hS8.rd 3 rfl
  have hdl := hd.len
  have hrl : (List.range N).length = N := List.length_range
  repeat first | (with_reducible first | refine Wp.seq ?_ | refine Wp.reg ?_ | refine Wp.block ?_ | refine Wp.skip ?_ | refine Wp.ret ?_ | refine Wp.exit ?_ | refine Wp.label ?_ | refine Wp.condG ?_) | simp (disch := omega) only [↓RP, RQ, TS, TR, ↓reduceIte, Nat.reduceEqDiff, Nat.reduceLT, Nat.reduceLeDiff, Int.reduceLT, Int.reduceLE, Int.reduceEq, Int.reduceAdd, Int.reduceSub, Int.reduceNeg, Int.reduceToNat, Nat.reduceAdd, Nat.reduceMul, Nat.reduceSub, reduceCtorEq, RC, Int.cast_ofNat_Int, hn, g0, g1, g2, hS7.ld 0 rfl, hS8.ld 0 rfl, hwd.len]
  refine condW_split (fun h => absurd h (by omega)) (fun _ => ?_)
  repeat first | (with_reducible first | refine Wp.seq ?_ | refine Wp.reg ?_ | refine Wp.block ?_ | refine Wp.skip ?_ | refine Wp.ret ?_ | refine Wp.exit ?_ | refine Wp.label ?_ | refine Wp.condG ?_) | simp (disch := omega) only [↓RP, RQ, TS, TR, ↓reduceIte, Nat.reduceEqDiff, Nat.reduceLT, Nat.reduceLeDiff, Int.reduceLT, Int.reduceLE, Int.reduceEq, Int.reduceAdd, Int.reduceSub, Int.reduceNeg, Int.reduceToNat, Nat.reduceAdd, Nat.reduceMul, Nat.reduceSub, reduceCtorEq, RC, Int.cast_ofNat_Int, hn, g0, g1, g2]
  have hrow : Sl1 H8 (ws s) (fun n : Nat => I n) (rows s) := hS8.rd (s + 4) (inner_get N ws rows s hs)
  have hwant := fun i hi => want_eq hd (hrows s hs) i hi
  have hrlen := (hrows s hs).len
  refine Wp.loopN (fun n l H' => H' = H8 ∧ l.length = 107 ∧ get l 7 = ptr A 0 2 ∧ get l 8 = I s ∧ get l 9 = wr ∧ get l 11 = wd ∧ get l 13 = st ∧ ∃ i : Nat, n + i = N ∧ get l 15 = I i ∧
    get l 14 = I ((List.range i).filter fun k => decide (0 ≤ d.getD k 0)).length) N ?_ ?_
  · repeat first | (with_reducible first | refine Wp.seq ?_ | refine Wp.reg ?_ | refine Wp.block ?_ | refine Wp.skip ?_ | refine Wp.ret ?_ | refine Wp.exit ?_ | refine Wp.label ?_ | refine Wp.condG ?_) | simp (disch := omega) only [↓RP, RQ, TS, TR, ↓reduceIte, Nat.reduceEqDiff, Nat.reduceLT, Nat.reduceLeDiff, Int.reduceLT, Int.reduceLE, Int.reduceEq, Int.reduceAdd, Int.reduceSub, Int.reduceNeg, Int.reduceToNat, Nat.reduceAdd, Nat.reduceMul, Nat.reduceSub, reduceCtorEq, RC, Int.cast_ofNat_Int, hn, g0, g1, g2]
    exact ⟨0, rfl, rfl, rfl⟩
  clear hn g0 g1 g2
  rintro n l H' ⟨rfl, hn, g7, g8, g9, g11, g13, i, hi, g15, g14⟩
  repeat first | (with_reducible first | refine Wp.seq ?_ | refine Wp.reg ?_ | refine Wp.block ?_ | refine Wp.skip ?_ | refine Wp.ret ?_ | refine Wp.exit ?_ | refine Wp.label ?_ | refine Wp.condG ?_) | simp (disch := omega) only [↓RP, RQ, TS, TR, ↓reduceIte, Nat.reduceEqDiff, Nat.reduceLT, Nat.reduceLeDiff, Int.reduceLT, Int.reduceLE, Int.reduceEq, Int.reduceAdd, Int.reduceSub, Int.reduceNeg, Int.reduceToNat, Nat.reduceAdd, Nat.reduceMul, Nat.reduceSub, reduceCtorEq, RC, Int.cast_ofNat_Int, hn, g7, g8, g9, g11, g13, g14, g15, hS8.ld 0 rfl]
  refine condW_split (fun h3 => ?_) (fun h3 => ?_)
  · have hiN : i < N := by omega
    have hw := hwant i hiN
    repeat first | (with_reducible first | refine Wp.seq ?_ | refine Wp.reg ?_ | refine Wp.block ?_ | refine Wp.skip ?_ | refine Wp.ret ?_ | refine Wp.exit ?_ | refine Wp.label ?_ | refine Wp.condG ?_) | simp (disch := omega) only [↓RP, RQ, TS, TR, ↓reduceIte, Nat.reduceEqDiff, Nat.reduceLT, Nat.reduceLeDiff, Int.reduceLT, Int.reduceLE, Int.reduceEq, Int.reduceAdd, Int.reduceSub, Int.reduceNeg, Int.reduceToNat, Nat.reduceAdd, Nat.reduceMul, Nat.reduceSub, reduceCtorEq, RC, Int.cast_ofNat_Int, hn, g7, g8, g9, g11, g13, g14, g15, hst.idx, hst.ld 0, getD_range, hrow.idx, hrow.ld 0]
    refine condW_cut (fun e l H2 => e = .normal ∧ H2 = H' ∧ l.length = 107 ∧ get l 7 = ptr A 0 2 ∧ get l 8 = I s ∧ get l 9 = wr ∧ get l 11 = wd ∧ get l 13 = st ∧ get l 15 = I i ∧ get l 14 = I ((List.range i).filter fun k => decide (0 ≤ d.getD k 0)).length ∧ get l 16 = I (d.getD i 0)) ?_ ?_
    · refine condW_split (fun h4 => ?_) (fun h4 => ?_)
      · repeat first | (with_reducible first | refine Wp.seq ?_ | refine Wp.reg ?_ | refine Wp.block ?_ | refine Wp.skip ?_ | refine Wp.ret ?_ | refine Wp.exit ?_ | refine Wp.label ?_ | refine Wp.condG ?_) | simp (disch := omega) only [↓RP, RQ, TS, TR, ↓reduceIte, Nat.reduceEqDiff, Nat.reduceLT, Nat.reduceLeDiff, Int.reduceLT, Int.reduceLE, Int.reduceEq, Int.reduceAdd, Int.reduceSub, Int.reduceNeg, Int.reduceToNat, Nat.reduceAdd, Nat.reduceMul, Nat.reduceSub, reduceCtorEq, RC, Int.cast_ofNat_Int, hn, g7, g8, g9, g11, g13, g14, g15]
        rw [hw, if_pos (by omega)]
      · repeat first | (with_reducible first | refine Wp.seq ?_ | refine Wp.reg ?_ | refine Wp.block ?_ | refine Wp.skip ?_ | refine Wp.ret ?_ | refine Wp.exit ?_ | refine Wp.label ?_ | refine Wp.condG ?_) | simp (disch := omega) only [↓RP, RQ, TS, TR, ↓reduceIte, Nat.reduceEqDiff, Nat.reduceLT, Nat.reduceLeDiff, Int.reduceLT, Int.reduceLE, Int.reduceEq, Int.reduceAdd, Int.reduceSub, Int.reduceNeg, Int.reduceToNat, Nat.reduceAdd, Nat.reduceMul, Nat.reduceSub, reduceCtorEq, RC, Int.cast_ofNat_Int, hn, g7, g8, g9, g11, g13, g14, g15]
        rw [if_neg (by omega)] at hw
        refine condW_split (fun h5 => ?_) (fun h5 => ?_)
        · repeat first | (with_reducible first | refine Wp.seq ?_ | refine Wp.reg ?_ | refine Wp.block ?_ | refine Wp.skip ?_ | refine Wp.ret ?_ | refine Wp.exit ?_ | refine Wp.label ?_ | refine Wp.condG ?_) | simp (disch := omega) only [↓RP, RQ, TS, TR, ↓reduceIte, Nat.reduceEqDiff, Nat.reduceLT, Nat.reduceLeDiff, Int.reduceLT, Int.reduceLE, Int.reduceEq, Int.reduceAdd, Int.reduceSub, Int.reduceNeg, Int.reduceToNat, Nat.reduceAdd, Nat.reduceMul, Nat.reduceSub, reduceCtorEq, RC, Int.cast_ofNat_Int, hn, g7, g8, g9, g11, g13, g14, g15]
          rw [hw, if_pos (by omega)]
        · repeat first | (with_reducible first | refine Wp.seq ?_ | refine Wp.reg ?_ | refine Wp.block ?_ | refine Wp.skip ?_ | refine Wp.ret ?_ | refine Wp.exit ?_ | refine Wp.label ?_ | refine Wp.condG ?_) | simp (disch := omega) only [↓RP, RQ, TS, TR, ↓reduceIte, Nat.reduceEqDiff, Nat.reduceLT, Nat.reduceLeDiff, Int.reduceLT, Int.reduceLE, Int.reduceEq, Int.reduceAdd, Int.reduceSub, Int.reduceNeg, Int.reduceToNat, Nat.reduceAdd, Nat.reduceMul, Nat.reduceSub, reduceCtorEq, RC, Int.cast_ofNat_Int, hn, g7, g8, g9, g11, g13, g14, g15]
          rw [hw, if_neg (by omega)]
    clear hn g7 g8 g9 g11 g13 g14 g15
    rintro e l H2 ⟨rfl, rfl, hn, g7, g8, g9, g11, g13, g15, g14, g16⟩
    repeat first | (with_reducible first | refine Wp.seq ?_ | refine Wp.reg ?_ | refine Wp.block ?_ | refine Wp.skip ?_ | refine Wp.ret ?_ | refine Wp.exit ?_ | refine Wp.label ?_ | refine Wp.condG ?_) | simp (disch := omega) only [↓RP, RQ, TS, TR, ↓reduceIte, Nat.reduceEqDiff, Nat.reduceLT, Nat.reduceLeDiff, Int.reduceLT, Int.reduceLE, Int.reduceEq, Int.reduceAdd, Int.reduceSub, Int.reduceNeg, Int.reduceToNat, Nat.reduceAdd, Nat.reduceMul, Nat.reduceSub, reduceCtorEq, RC, Int.cast_ofNat_Int, hn, g7, g8, g9, g11, g13, g14, g15, g16, hwd.idx, hwd.ld 0]
    refine condW_split (fun h4 => ?_) (fun h4 => ?_)
    · have hf := filter_at (fun k => decide (0 ≤ d.getD k 0)) N i hiN (decide_eq_true h4)
      repeat first | (with_reducible first | refine Wp.seq ?_ | refine Wp.reg ?_ | refine Wp.block ?_ | refine Wp.skip ?_ | refine Wp.ret ?_ | refine Wp.exit ?_ | refine Wp.label ?_ | refine Wp.condG ?_) | simp (disch := omega) only [↓RP, RQ, TS, TR, ↓reduceIte, Nat.reduceEqDiff, Nat.reduceLT, Nat.reduceLeDiff, Int.reduceLT, Int.reduceLE, Int.reduceEq, Int.reduceAdd, Int.reduceSub, Int.reduceNeg, Int.reduceToNat, Nat.reduceAdd, Nat.reduceMul, Nat.reduceSub, reduceCtorEq, RC, Int.cast_ofNat_Int, hn, g7, g8, g9, g11, g13, g14, g15, g16, hwr.len]
      have hfl : ((List.range i).filter fun k => decide (0 ≤ d.getD k 0)).length ≤ i := by
        have := List.length_filter_le (fun k => decide (0 ≤ d.getD k 0)) (List.range i)
        simpa using this
      generalize hc1 : ((List.range i).filter fun k => decide (0 ≤ d.getD k 0)).length = c1 at hf g14 hfl ⊢
      generalize hc2 : ((List.range N).filter fun k => decide (0 ≤ d.getD k 0)) = c2 at hf hwr ⊢
      refine letG_split' (fun h5 => absurd h5 (by omega)) (fun h5 => ?_)
      have hf2 : (c2.getD c1 0 : Int) = i := by rw [hf.2]
      repeat first | (with_reducible first | refine Wp.seq ?_ | refine Wp.reg ?_ | refine Wp.block ?_ | refine Wp.skip ?_ | refine Wp.ret ?_ | refine Wp.exit ?_ | refine Wp.label ?_ | refine Wp.condG ?_) | simp (disch := omega) only [↓RP, RQ, TS, TR, ↓reduceIte, Nat.reduceEqDiff, Nat.reduceLT, Nat.reduceLeDiff, Int.reduceLT, Int.reduceLE, Int.reduceEq, Int.reduceAdd, Int.reduceSub, Int.reduceNeg, Int.reduceToNat, Nat.reduceAdd, Nat.reduceMul, Nat.reduceSub, reduceCtorEq, RC, Int.cast_ofNat_Int, hn, g7, g8, g9, g11, g13, g14, g15, g16, hwr.len, h5, hwr.idx, hwr.ld 0, hf2, wrap_fit]
      refine ⟨n - 1, by omega, i + 1, by omega, rfl, ?_⟩
      rw [List.range_succ, List.filter_append]
      have e : [i].filter (fun k => decide (0 ≤ d.getD k 0)) = [i] := by simp only [List.filter_cons, List.filter_nil, decide_eq_true h4, if_true]
      rw [e, List.length_append, hc1]
      rfl
    · repeat first | (with_reducible first | refine Wp.seq ?_ | refine Wp.reg ?_ | refine Wp.block ?_ | refine Wp.skip ?_ | refine Wp.ret ?_ | refine Wp.exit ?_ | refine Wp.label ?_ | refine Wp.condG ?_) | simp (disch := omega) only [↓RP, RQ, TS, TR, ↓reduceIte, Nat.reduceEqDiff, Nat.reduceLT, Nat.reduceLeDiff, Int.reduceLT, Int.reduceLE, Int.reduceEq, Int.reduceAdd, Int.reduceSub, Int.reduceNeg, Int.reduceToNat, Nat.reduceAdd, Nat.reduceMul, Nat.reduceSub, reduceCtorEq, RC, Int.cast_ofNat_Int, hn, g7, g8, g9, g11, g13, g14, g15, g16, wrap_fit]
      refine ⟨n - 1, by omega, i + 1, by omega, rfl, ?_⟩
      rw [List.range_succ, List.filter_append]
      have e : [i].filter (fun k => decide (0 ≤ d.getD k 0)) = [] := by simp only [List.filter_cons, List.filter_nil, decide_eq_false h4]; rfl
      rw [e, List.append_nil]
  · have e : i = N := by omega
    subst e
    repeat first | (with_reducible first | refine Wp.seq ?_ | refine Wp.reg ?_ | refine Wp.block ?_ | refine Wp.skip ?_ | refine Wp.ret ?_ | refine Wp.exit ?_ | refine Wp.label ?_ | refine Wp.condG ?_) | simp (disch := omega) only [↓RP, RQ, TS, TR, ↓reduceIte, Nat.reduceEqDiff, Nat.reduceLT, Nat.reduceLeDiff, Int.reduceLT, Int.reduceLE, Int.reduceEq, Int.reduceAdd, Int.reduceSub, Int.reduceNeg, Int.reduceToNat, Nat.reduceAdd, Nat.reduceMul, Nat.reduceSub, reduceCtorEq, RC, Int.cast_ofNat_Int, hn, g7, g8, g9, g11, g13, g14, g15, hwr.len]
end Go.Ds
/-
  The law on Components and Condense: its walk.
-/
namespace Go.Ds
open Go.Proofs Go.Plain
variable {H : Heap}

theorem mu_steps {N : Nat} {es : List (Nat × Nat)} {ds : Nat → List Int} {rows : Nat → List Nat} (hds : ∀ i, i < N → IsD es N i (ds i)) (hrows : ∀ i, i < N → IsS es N i (rows i)) {i k : Nat} (hi : i < N) (hk : k < N) :
    mu ds i k = (decide (i = k) || (decide (0 < (rows i).getD k 0) && decide (0 < (rows k).getD i 0))) := by
  have h1 : ∀ i k, i < N → k < N → (0 < (rows i).getD k 0 ↔ ∃ n, W es (n + 1) i k) := fun i k hi hk => by
    constructor
    · intro h0
      have := ((hrows i hi).pos k hk h0).1
      exact ⟨(rows i).getD k 0 - 1, by rw [Nat.sub_add_cancel h0]; exact this⟩
    · rintro ⟨n, hw⟩
      apply Classical.byContradiction
      intro hh
      exact (hrows i hi).zero k hk (by omega) n hw
  rw [Bool.eq_iff_iff, mu_iff hds hi hk, Bool.or_eq_true, Bool.and_eq_true, decide_eq_true_eq, decide_eq_true_eq, decide_eq_true_eq, h1 i k hi hk, h1 k i hk hi]
  constructor
  · rintro ⟨⟨n, hw⟩, m, hw2⟩
    cases n with
    | zero => exact .inl hw
    | succ n =>
      cases m with
      | zero => exact .inl (Eq.symm hw2)
      | succ m => exact .inr ⟨⟨n, hw⟩, m, hw2⟩
  · rintro (rfl | ⟨⟨n, hw⟩, m, hw2⟩)
    · exact ⟨⟨0, rfl⟩, 0, rfl⟩
    · exact ⟨⟨_, hw⟩, _, hw2⟩
theorem grp_head {ds : Nat → List Int} {N i : Nat} (h : Eqv ds N) (hi : i < N) : (grp ds i N).getD 0 0 = ld ds i ∧ 0 < (grp ds i N).length := by
  have hl := ld_spec h hi
  have hsym : ∀ k, k < N → mu ds i k = mu ds k i := fun k hk => by
    rw [Bool.eq_iff_iff]
    exact ⟨h.sy _ _ hi hk, h.sy _ _ hk hi⟩
  have hpre : ∀ K, K ≤ ld ds i → grp ds i K = [] := fun K hK => by
    unfold grp
    rw [List.filter_eq_nil_iff]
    intro k hk
    have hk := List.mem_range.1 hk
    rw [hsym k (by omega), hl.2.2 k (by omega)]
    decide
  obtain ⟨m, rfl⟩ : ∃ m, N = ld ds i + 1 + m := ⟨N - (ld ds i + 1), by omega⟩
  have : ∀ m, ld ds i + 1 + m ≤ ld ds i + 1 + m → ∃ r, grp ds i (ld ds i + 1 + m) = ld ds i :: r := by
    intro m _
    induction m with
    | zero =>
      refine ⟨[], ?_⟩
      rw [Nat.add_zero, grp_succ, hpre _ (Nat.le_refl _), hsym _ (by omega), hl.2.1]
      rfl
    | succ m ih =>
      obtain ⟨r, hr⟩ := ih (Nat.le_refl _)
      refine ⟨r ++ (if mu ds i (ld ds i + 1 + m) = true then [ld ds i + 1 + m] else []), ?_⟩
      rw [← Nat.add_assoc, grp_succ, hr]
      rfl
  obtain ⟨r, hr⟩ := this m (Nat.le_refl _)
  rw [hr]
  simp

theorem inner_getA (M : Nat) (ws : Nat → Value) (nx : Nat → List Nat) (os : List Ob) (j : Nat) (hj : j < M) : (inner M ws nx ++ os)[j]? = some ⟨ws j, 0 + 1, nts (nx j)⟩ := by
  rw [List.getElem?_append_left (by simpa [inner] using hj)]
  exact inner_get M ws nx j hj
theorem inner_getB (M : Nat) (ws : Nat → Value) (nx : Nat → List Nat) (os : List Ob) (j : Nat) : (inner M ws nx ++ os)[M + j]? = os[j]? := by
  rw [List.getElem?_append_right (by simp [inner])]
  simp [inner]
def gt (ds : Nat → List Int) (N i k : Nat) : Int := if k < i then cn ds N k else 0
theorem cn_ld {ds : Nat → List Int} {N k : Nat} (h : Eqv ds N) (hk : k < N) : cn ds N (ld ds k) = cn ds N k := by
  unfold cn
  rw [ld_idem h hk]

set_option maxRecDepth 10000 in
set_option maxHeartbeats 8000000 in
theorem law9_ok (a : Nat) (ha : a < 256) (v : Value) (ls : List (Nat × Nat)) (hv : Lk H v ls) (hb : ∀ x ∈ ls, x.1 < 256 ∧ x.2 < 256) : Fn Try.prog 9 [U a, v] H fun r H' => r = .bool true := by
  refine Fn.of_wp (fn := Try.f9) rfl rfl (by kernel_rfl) fun l hl => ?_
  have hn : l.length = 193 := by rw [hl]; rfl
  have g0 : get l 0 = U a := by rw [hl]; rfl
  have g1 : get l 1 = v := by rw [hl]; rfl
  clear hl
  have hv0 : Sl2 H v _ _ ls := hv
  repeat first | (with_reducible first | refine Wp.seq ?_ | refine Wp.reg ?_ | refine Wp.block ?_ | refine Wp.skip ?_ | refine Wp.ret ?_ | refine Wp.exit ?_ | refine Wp.label ?_ | refine Wp.condG ?_) | simp (disch := omega) only [↓RP, RQ, TS, TR, ↓reduceIte, Nat.reduceEqDiff, Nat.reduceLT, Nat.reduceLeDiff, Int.reduceLT, Int.reduceLE, Int.reduceEq, Int.reduceAdd, Int.reduceSub, Int.reduceNeg, Int.reduceToNat, Nat.reduceAdd, Nat.reduceMul, Nat.reduceSub, reduceCtorEq, RC, Int.cast_ofNat_Int, hn, g0, g1]
  refine callFW_of (known_ok H) ?_
  rintro r H1 ⟨rfl, rfl⟩
  repeat first | (with_reducible first | refine Wp.seq ?_ | refine Wp.reg ?_ | refine Wp.block ?_ | refine Wp.skip ?_ | refine Wp.ret ?_ | refine Wp.exit ?_ | refine Wp.label ?_ | refine Wp.condG ?_) | simp (disch := omega) only [↓RP, RQ, TS, TR, ↓reduceIte, Nat.reduceEqDiff, Nat.reduceLT, Nat.reduceLeDiff, Int.reduceLT, Int.reduceLE, Int.reduceEq, Int.reduceAdd, Int.reduceSub, Int.reduceNeg, Int.reduceToNat, Nat.reduceAdd, Nat.reduceMul, Nat.reduceSub, reduceCtorEq, RC, Int.cast_ofNat_Int, hn, g0, g1, hv0.len]
  refine condW_split (fun h => ?_) (fun h => ?_)
  · repeat first | (with_reducible first | refine Wp.seq ?_ | refine Wp.reg ?_ | refine Wp.block ?_ | refine Wp.skip ?_ | refine Wp.ret ?_ | refine Wp.exit ?_ | refine Wp.label ?_ | refine Wp.condG ?_) | simp (disch := omega) only [↓RP, RQ, TS, TR, ↓reduceIte, Nat.reduceEqDiff, Nat.reduceLT, Nat.reduceLeDiff, Int.reduceLT, Int.reduceLE, Int.reduceEq, Int.reduceAdd, Int.reduceSub, Int.reduceNeg, Int.reduceToNat, Nat.reduceAdd, Nat.reduceMul, Nat.reduceSub, reduceCtorEq, RC, Int.cast_ofNat_Int, hn, g0, g1]
    refine callFW_of (known_ok _) ?_
    rintro r H1 ⟨rfl, rfl⟩
    repeat first | (with_reducible first | refine Wp.seq ?_ | refine Wp.reg ?_ | refine Wp.block ?_ | refine Wp.skip ?_ | refine Wp.ret ?_ | refine Wp.exit ?_ | refine Wp.label ?_ | refine Wp.condG ?_) | simp (disch := omega) only [↓RP, RQ, TS, TR, ↓reduceIte, Nat.reduceEqDiff, Nat.reduceLT, Nat.reduceLeDiff, Int.reduceLT, Int.reduceLE, Int.reduceEq, Int.reduceAdd, Int.reduceSub, Int.reduceNeg, Int.reduceToNat, Nat.reduceAdd, Nat.reduceMul, Nat.reduceSub, reduceCtorEq, RC, Int.cast_ofNat_Int, hn, g0, g1]
  repeat first | (with_reducible first | refine Wp.seq ?_ | refine Wp.reg ?_ | refine Wp.block ?_ | refine Wp.skip ?_ | refine Wp.ret ?_ | refine Wp.exit ?_ | refine Wp.label ?_ | refine Wp.condG ?_) | simp (disch := omega) only [↓RP, RQ, TS, TR, ↓reduceIte, Nat.reduceEqDiff, Nat.reduceLT, Nat.reduceLeDiff, Int.reduceLT, Int.reduceLE, Int.reduceEq, Int.reduceAdd, Int.reduceSub, Int.reduceNeg, Int.reduceToNat, Nat.reduceAdd, Nat.reduceMul, Nat.reduceSub, reduceCtorEq, RC, Int.cast_ofNat_Int, hn, g0, g1]
  refine callFW_of (make_ok a ha v ls hv (by omega) hb) ?_
  rintro r H2 ⟨w, rfl, hE, _⟩
  have hN := mkN_pos a
  have hval := mkE_val a ls
  have hl := mkE_length a ls
  generalize mkE a ls = es at hE hval hl
  generalize mkN a = N at hE hval hN
  repeat first | (with_reducible first | refine Wp.seq ?_ | refine Wp.reg ?_ | refine Wp.block ?_ | refine Wp.skip ?_ | refine Wp.ret ?_ | refine Wp.exit ?_ | refine Wp.label ?_ | refine Wp.condG ?_) | simp (disch := omega) only [↓RP, RQ, TS, TR, ↓reduceIte, Nat.reduceEqDiff, Nat.reduceLT, Nat.reduceLeDiff, Int.reduceLT, Int.reduceLE, Int.reduceEq, Int.reduceAdd, Int.reduceSub, Int.reduceNeg, Int.reduceToNat, Nat.reduceAdd, Nat.reduceMul, Nat.reduceSub, reduceCtorEq, RC, Int.cast_ofNat_Int, hn, g0, g1]
  refine (St.refl _ H2).eNew 2 [I 0, .slice none 0 0] rfl rfl rfl tS27 fun A H3 hS => ?_
  repeat first | (with_reducible first | refine Wp.seq ?_ | refine Wp.reg ?_ | refine Wp.block ?_ | refine Wp.skip ?_ | refine Wp.ret ?_ | refine Wp.exit ?_ | refine Wp.label ?_ | refine Wp.condG ?_) | simp (disch := omega) only [↓RP, RQ, TS, TR, ↓reduceIte, Nat.reduceEqDiff, Nat.reduceLT, Nat.reduceLeDiff, Int.reduceLT, Int.reduceLE, Int.reduceEq, Int.reduceAdd, Int.reduceSub, Int.reduceNeg, Int.reduceToNat, Nat.reduceAdd, Nat.reduceMul, Nat.reduceSub, reduceCtorEq, RC, Int.cast_ofNat_Int, hn, g0, g1]
  refine hS.eStore 0 rfl [I N, w] rfl (by simp [hE.one]; rfl) tS27 (by simp) fun H4 hS => ?_
  simp only [List.nil_append, List.cons_append, List.append_nil, List.set_cons_zero, List.set_cons_succ, setMany_cons, setMany_nil, Nat.zero_add, Nat.mul_one, Nat.add_zero] at hS
  repeat first | (with_reducible first | refine Wp.seq ?_ | refine Wp.reg ?_ | refine Wp.block ?_ | refine Wp.skip ?_ | refine Wp.ret ?_ | refine Wp.exit ?_ | refine Wp.label ?_ | refine Wp.condG ?_) | simp (disch := omega) only [↓RP, RQ, TS, TR, ↓reduceIte, Nat.reduceEqDiff, Nat.reduceLT, Nat.reduceLeDiff, Int.reduceLT, Int.reduceLE, Int.reduceEq, Int.reduceAdd, Int.reduceSub, Int.reduceNeg, Int.reduceToNat, Nat.reduceAdd, Nat.reduceMul, Nat.reduceSub, reduceCtorEq, RC, Int.cast_ofNat_Int, hn, g0, g1, hS.ldA 0 rfl]
  refine callFW_of (components_ok N w es (hS.base hE) (by omega) (by omega) (by omega) hval) ?_
  rintro r H5 ⟨ds, ov, ws, hT, rfl, hS2⟩
  have hS := hS.trans hS2
  simp only [List.nil_append, List.cons_append, List.append_nil, List.set_cons_zero, List.set_cons_succ, setMany_cons, setMany_nil, Nat.zero_add, Nat.mul_one, Nat.add_zero] at hS
  repeat first | (with_reducible first | refine Wp.seq ?_ | refine Wp.reg ?_ | refine Wp.block ?_ | refine Wp.skip ?_ | refine Wp.ret ?_ | refine Wp.exit ?_ | refine Wp.label ?_ | refine Wp.condG ?_) | simp (disch := omega) only [↓RP, RQ, TS, TR, ↓reduceIte, Nat.reduceEqDiff, Nat.reduceLT, Nat.reduceLeDiff, Int.reduceLT, Int.reduceLE, Int.reduceEq, Int.reduceAdd, Int.reduceSub, Int.reduceNeg, Int.reduceToNat, Nat.reduceAdd, Nat.reduceMul, Nat.reduceSub, reduceCtorEq, RC, Int.cast_ofNat_Int, hn, g0, g1, hS.ldA 0 rfl]
  refine callFW_of (condense_ok N w es (hS.base hE) (by omega) (by omega) (by omega) hval) ?_
  rintro r H6 ⟨ds2, wd, hT2, rfl, lv, rest, hwd, hS2⟩
  obtain rfl := hT.uniq hT2
  have hS := (hS.trans hS2).front
  have hds := hT.1
  have hQ := eqv_of hds
  have hM := lds_le ds N
  have hrlM : (List.range (lds ds N).length).length = (lds ds N).length := List.length_range
  repeat first | (with_reducible first | refine Wp.seq ?_ | refine Wp.reg ?_ | refine Wp.block ?_ | refine Wp.skip ?_ | refine Wp.ret ?_ | refine Wp.exit ?_ | refine Wp.label ?_ | refine Wp.condG ?_) | simp (disch := omega) only [↓RP, RQ, TS, TR, ↓reduceIte, Nat.reduceEqDiff, Nat.reduceLT, Nat.reduceLeDiff, Int.reduceLT, Int.reduceLE, Int.reduceEq, Int.reduceAdd, Int.reduceSub, Int.reduceNeg, Int.reduceToNat, Nat.reduceAdd, Nat.reduceMul, Nat.reduceSub, reduceCtorEq, RC, Int.cast_ofNat_Int, hn, g0, g1]
  refine hS.eNew 2 [I 0, .slice none 0 0] rfl rfl rfl tS27 fun B H7 hS => ?_
  have hS := hS.front
  have hEd := hwd _ (hS.rd 1 rfl)
  repeat first | (with_reducible first | refine Wp.seq ?_ | refine Wp.reg ?_ | refine Wp.block ?_ | refine Wp.skip ?_ | refine Wp.ret ?_ | refine Wp.exit ?_ | refine Wp.label ?_ | refine Wp.condG ?_) | simp (disch := omega) only [↓RP, RQ, TS, TR, ↓reduceIte, Nat.reduceEqDiff, Nat.reduceLT, Nat.reduceLeDiff, Int.reduceLT, Int.reduceLE, Int.reduceEq, Int.reduceAdd, Int.reduceSub, Int.reduceNeg, Int.reduceToNat, Nat.reduceAdd, Nat.reduceMul, Nat.reduceSub, reduceCtorEq, RC, Int.cast_ofNat_Int, hn, g0, g1]
  refine hS.eStore 0 rfl [I (lds ds N).length, wd] rfl (by simp [hEd.one]; rfl) tS27 (by simp) fun H8 hS => ?_
  simp only [List.nil_append, List.cons_append, List.append_nil, List.set_cons_zero, List.set_cons_succ, setMany_cons, setMany_nil, Nat.zero_add, Nat.mul_one, Nat.add_zero] at hS
  have hov : Sl1 H8 ov ws (List.range (lds ds N).length) := hS.rd 3 rfl
  repeat first | (with_reducible first | refine Wp.seq ?_ | refine Wp.reg ?_ | refine Wp.block ?_ | refine Wp.skip ?_ | refine Wp.ret ?_ | refine Wp.exit ?_ | refine Wp.label ?_ | refine Wp.condG ?_) | simp (disch := omega) only [↓RP, RQ, TS, TR, ↓reduceIte, Nat.reduceEqDiff, Nat.reduceLT, Nat.reduceLeDiff, Int.reduceLT, Int.reduceLE, Int.reduceEq, Int.reduceAdd, Int.reduceSub, Int.reduceNeg, Int.reduceToNat, Nat.reduceAdd, Nat.reduceMul, Nat.reduceSub, reduceCtorEq, RC, Int.cast_ofNat_Int, hn, g0, g1, hS.ld 0 rfl, hov.len, hrlM]
  refine Wp.drwT hmix [(1, 4)] (by kernel_rfl) (by kernel_rfl) ?_
  repeat first | (with_reducible first | refine Wp.seq ?_ | refine Wp.reg ?_ | refine Wp.block ?_ | refine Wp.skip ?_ | refine Wp.ret ?_ | refine Wp.exit ?_ | refine Wp.label ?_ | refine Wp.condG ?_) | simp (disch := omega) only [↓RP, RQ, TS, TR, ↓reduceIte, Nat.reduceEqDiff, Nat.reduceLT, Nat.reduceLeDiff, Int.reduceLT, Int.reduceLE, Int.reduceEq, Int.reduceAdd, Int.reduceSub, Int.reduceNeg, Int.reduceToNat, Nat.reduceAdd, Nat.reduceMul, Nat.reduceSub, reduceCtorEq, RC, Int.cast_ofNat_Int, hn, g0, g1, hS.ldA 2 rfl, hS.ld 2 rfl]
  refine callFW_of (edges_ok N w es (hS.base hE) (by omega)) ?_
  rintro ev H9 ⟨hEv, hS2⟩
  have hS7 := hS.trans hS2
  rw [List.append_nil] at hS7
  repeat first | (with_reducible first | refine Wp.seq ?_ | refine Wp.reg ?_ | refine Wp.block ?_ | refine Wp.skip ?_ | refine Wp.ret ?_ | refine Wp.exit ?_ | refine Wp.label ?_ | refine Wp.condG ?_) | simp (disch := omega) only [↓RP, RQ, TS, TR, ↓reduceIte, Nat.reduceEqDiff, Nat.reduceLT, Nat.reduceLeDiff, Int.reduceLT, Int.reduceLE, Int.reduceEq, Int.reduceAdd, Int.reduceSub, Int.reduceNeg, Int.reduceToNat, Nat.reduceAdd, Nat.reduceMul, Nat.reduceSub, reduceCtorEq, RC, Int.cast_ofNat_Int, hn, g0, g1]
  refine callFW_of (steps_ok N ev es hEv (by omega) (by omega) hval) ?_
  rintro st H10 ⟨wss, rows, hrows, hS2⟩
  have hS := hS7.trans hS2
  simp only [List.nil_append, List.cons_append, List.append_nil, List.set_cons_zero, List.set_cons_succ, setMany_cons, setMany_nil, Nat.zero_add, Nat.mul_one, Nat.add_zero] at hS
  repeat first | (with_reducible first | refine Wp.seq ?_ | refine Wp.reg ?_ | refine Wp.block ?_ | refine Wp.skip ?_ | refine Wp.ret ?_ | refine Wp.exit ?_ | refine Wp.label ?_ | refine Wp.condG ?_) | simp (disch := omega) only [↓RP, RQ, TS, TR, ↓reduceIte, Nat.reduceEqDiff, Nat.reduceLT, Nat.reduceLeDiff, Int.reduceLT, Int.reduceLE, Int.reduceEq, Int.reduceAdd, Int.reduceSub, Int.reduceNeg, Int.reduceToNat, Nat.reduceAdd, Nat.reduceMul, Nat.reduceSub, reduceCtorEq, RC, Int.cast_ofNat_Int, hn, g0, g1, hS7.ld 2 rfl, hS.ld 2 rfl]
  refine hS.eMake1 N tM29 (by omega) fun wg H11 hS => ?_
  have hS := hS.front
  repeat first | (with_reducible first | refine Wp.seq ?_ | refine Wp.reg ?_ | refine Wp.block ?_ | refine Wp.skip ?_ | refine Wp.ret ?_ | refine Wp.exit ?_ | refine Wp.label ?_ | refine Wp.condG ?_) | simp (disch := omega) only [↓RP, RQ, TS, TR, ↓reduceIte, Nat.reduceEqDiff, Nat.reduceLT, Nat.reduceLeDiff, Int.reduceLT, Int.reduceLE, Int.reduceEq, Int.reduceAdd, Int.reduceSub, Int.reduceNeg, Int.reduceToNat, Nat.reduceAdd, Nat.reduceMul, Nat.reduceSub, reduceCtorEq, RC, Int.cast_ofNat_Int, hn, g0, g1]
  have hrl : (List.range N).length = N := List.length_range
  refine Wp.loopN (fun n l H' => l.length = 193 ∧ get l 5 = ptr A 0 2 ∧ get l 6 = ov ∧ get l 8 = ptr B 0 2 ∧ get l 10 = st ∧ get l 11 = wg ∧ ∃ i : Nat, n + i = N ∧ get l 13 = I i ∧ get l 12 = I (lds ds i).length ∧
    St Try.prog H2 H' (⟨wg, 1, tb N (gt ds N i)⟩ :: ⟨ptr B 0 2, 0, [I (lds ds N).length, wd]⟩ :: ⟨lv, 2, eg (sd (xe ds N es)) ++ rest⟩ :: ⟨ptr A 0 2, 0, [I N, w]⟩ :: ⟨ov, 1, (List.range (lds ds N).length).map ws⟩ :: (inner (lds ds N).length ws (gr ds N) ++ ⟨st, 1, (List.range N).map wss⟩ :: inner N wss rows))) N ?_ ?_
  · repeat first | (with_reducible first | refine Wp.seq ?_ | refine Wp.reg ?_ | refine Wp.block ?_ | refine Wp.skip ?_ | refine Wp.ret ?_ | refine Wp.exit ?_ | refine Wp.label ?_ | refine Wp.condG ?_) | simp (disch := omega) only [↓RP, RQ, TS, TR, ↓reduceIte, Nat.reduceEqDiff, Nat.reduceLT, Nat.reduceLeDiff, Int.reduceLT, Int.reduceLE, Int.reduceEq, Int.reduceAdd, Int.reduceSub, Int.reduceNeg, Int.reduceToNat, Nat.reduceAdd, Nat.reduceMul, Nat.reduceSub, reduceCtorEq, RC, Int.cast_ofNat_Int, hn, g0, g1]
    refine ⟨0, rfl, rfl, rfl, ?_⟩
    have e2 : tb N (gt ds N 0) = List.replicate N (I 0) := by
      unfold tb gt
      simp only [Nat.not_lt_zero, if_false]
      rw [List.map_const', List.length_range]
    rw [e2]
    exact hS
  clear hS hS7 hS2 hn g0 g1 hov hEv hEd
  rintro n l H' ⟨hn, g5, g6, g8, g10, g11, i, hi, g13, g12, hS⟩
  repeat first | (with_reducible first | refine Wp.seq ?_ | refine Wp.reg ?_ | refine Wp.block ?_ | refine Wp.skip ?_ | refine Wp.ret ?_ | refine Wp.exit ?_ | refine Wp.label ?_ | refine Wp.condG ?_) | simp (disch := omega) only [↓RP, RQ, TS, TR, ↓reduceIte, Nat.reduceEqDiff, Nat.reduceLT, Nat.reduceLeDiff, Int.reduceLT, Int.reduceLE, Int.reduceEq, Int.reduceAdd, Int.reduceSub, Int.reduceNeg, Int.reduceToNat, Nat.reduceAdd, Nat.reduceMul, Nat.reduceSub, reduceCtorEq, RC, Int.cast_ofNat_Int, hn, g5, g6, g8, g10, g11, g12, g13, hS.ld 3 rfl]
  refine condW_split (fun h3 => ?_) (fun h3 => ?_)
  · have hiN : i < N := by omega
    have hS := (hS.nil 0).front
    have hgh := grp_head hQ hiN
    have hls := ld_spec hQ hiN
    have hlm := lds_mono ds (show i ≤ N by omega)
    repeat first | (with_reducible first | refine Wp.seq ?_ | refine Wp.reg ?_ | refine Wp.block ?_ | refine Wp.skip ?_ | refine Wp.ret ?_ | refine Wp.exit ?_ | refine Wp.label ?_ | refine Wp.condG ?_) | simp (disch := omega) only [↓RP, RQ, TS, TR, ↓reduceIte, Nat.reduceEqDiff, Nat.reduceLT, Nat.reduceLeDiff, Int.reduceLT, Int.reduceLE, Int.reduceEq, Int.reduceAdd, Int.reduceSub, Int.reduceNeg, Int.reduceToNat, Nat.reduceAdd, Nat.reduceMul, Nat.reduceSub, reduceCtorEq, RC, Int.cast_ofNat_Int, hn, g5, g6, g8, g10, g11, g12, g13]
    refine Wp.loopN (fun m l H' => l.length = 193 ∧ get l 5 = ptr A 0 2 ∧ get l 6 = ov ∧ get l 8 = ptr B 0 2 ∧ get l 10 = st ∧ get l 11 = wg ∧ get l 13 = I i ∧ get l 12 = I (lds ds i).length ∧ ∃ (k : Nat) (lw : Value), m + k = N ∧ get l 15 = I k ∧ get l 14 = lw ∧
      St Try.prog H2 H' (⟨lw, 1, nts (grp ds i k)⟩ :: ⟨wg, 1, tb N (gt ds N i)⟩ :: ⟨ptr B 0 2, 0, [I (lds ds N).length, wd]⟩ :: ⟨lv, 2, eg (sd (xe ds N es)) ++ rest⟩ :: ⟨ptr A 0 2, 0, [I N, w]⟩ :: ⟨ov, 1, (List.range (lds ds N).length).map ws⟩ :: (inner (lds ds N).length ws (gr ds N) ++ ⟨st, 1, (List.range N).map wss⟩ :: inner N wss rows))) N ?_ ?_
    · repeat first | (with_reducible first | refine Wp.seq ?_ | refine Wp.reg ?_ | refine Wp.block ?_ | refine Wp.skip ?_ | refine Wp.ret ?_ | refine Wp.exit ?_ | refine Wp.label ?_ | refine Wp.condG ?_) | simp (disch := omega) only [↓RP, RQ, TS, TR, ↓reduceIte, Nat.reduceEqDiff, Nat.reduceLT, Nat.reduceLeDiff, Int.reduceLT, Int.reduceLE, Int.reduceEq, Int.reduceAdd, Int.reduceSub, Int.reduceNeg, Int.reduceToNat, Nat.reduceAdd, Nat.reduceMul, Nat.reduceSub, reduceCtorEq, RC, Int.cast_ofNat_Int, hn, g5, g6, g8, g10, g11, g12, g13]
      exact ⟨0, _, rfl, rfl, rfl, hS⟩
    clear hS hn g5 g6 g8 g10 g11 g12 g13
    rintro m l H' ⟨hn, g5, g6, g8, g10, g11, g13, g12, k, lw, hk, g15, g14, hS⟩
    repeat first | (with_reducible first | refine Wp.seq ?_ | refine Wp.reg ?_ | refine Wp.block ?_ | refine Wp.skip ?_ | refine Wp.ret ?_ | refine Wp.exit ?_ | refine Wp.label ?_ | refine Wp.condG ?_) | simp (disch := omega) only [↓RP, RQ, TS, TR, ↓reduceIte, Nat.reduceEqDiff, Nat.reduceLT, Nat.reduceLeDiff, Int.reduceLT, Int.reduceLE, Int.reduceEq, Int.reduceAdd, Int.reduceSub, Int.reduceNeg, Int.reduceToNat, Nat.reduceAdd, Nat.reduceMul, Nat.reduceSub, reduceCtorEq, RC, Int.cast_ofNat_Int, hn, g5, g6, g8, g10, g11, g12, g13, g14, g15, hS.ld 4 rfl]
    refine condW_split (fun h4 => ?_) (fun h4 => ?_)
    · have hkN : k < N := by omega
      have hgs := grp_succ ds i k
      have hgl := grp_le ds i k
      have hmu := mu_steps hds hrows hiN hkN
      have hstv : Sl1 H' st wss (List.range N) := hS.rd ((lds ds N).length + 6) (inner_getB _ ws _ _ 0)
      have hri : Sl1 H' (wss i) (fun n : Nat => I n) (rows i) := hS.rd ((lds ds N).length + (i + 1) + 6) ((inner_getB _ ws _ _ (i + 1)).trans (inner_get N wss rows i hiN))
      have hrk : Sl1 H' (wss k) (fun n : Nat => I n) (rows k) := hS.rd ((lds ds N).length + (k + 1) + 6) ((inner_getB _ ws _ _ (k + 1)).trans (inner_get N wss rows k hkN))
      have l1 := (hrows i hiN).len
      have l2 := (hrows k hkN).len
      have hyes : mu ds i k = true → ∀ l', l'.length = 193 → get l' 5 = ptr A 0 2 → True := fun _ _ _ _ => trivial
      clear hyes
      by_cases e0 : i = k
      · have hmt : mu ds i k = true := by rw [hmu, decide_eq_true e0, Bool.true_or]
        have d0 : decide ((i : Int) = (k : Int)) = true := decide_eq_true (by omega)
        rw [hmt, if_pos rfl] at hgs
        repeat first | (with_reducible first | refine Wp.seq ?_ | refine Wp.reg ?_ | refine Wp.block ?_ | refine Wp.skip ?_ | refine Wp.ret ?_ | refine Wp.exit ?_ | refine Wp.label ?_ | refine Wp.condG ?_) | simp (disch := omega) only [↓RP, RQ, TS, TR, ↓reduceIte, Nat.reduceEqDiff, Nat.reduceLT, Nat.reduceLeDiff, Int.reduceLT, Int.reduceLE, Int.reduceEq, Int.reduceAdd, Int.reduceSub, Int.reduceNeg, Int.reduceToNat, Nat.reduceAdd, Nat.reduceMul, Nat.reduceSub, reduceCtorEq, RC, Int.cast_ofNat_Int, hn, g5, g6, g8, g10, g11, g12, g13, g14, g15, d0]
        refine hS.eSlice [I k] tP29 tF29 rfl rfl (by simp [Value.cells]) rfl rfl (by decide) (by decide) fun y H4 hS => ?_
        have hS := hS.front
        repeat first | (with_reducible first | refine Wp.seq ?_ | refine Wp.reg ?_ | refine Wp.block ?_ | refine Wp.skip ?_ | refine Wp.ret ?_ | refine Wp.exit ?_ | refine Wp.label ?_ | refine Wp.condG ?_) | simp (disch := omega) only [↓RP, RQ, TS, TR, ↓reduceIte, Nat.reduceEqDiff, Nat.reduceLT, Nat.reduceLeDiff, Int.reduceLT, Int.reduceLE, Int.reduceEq, Int.reduceAdd, Int.reduceSub, Int.reduceNeg, Int.reduceToNat, Nat.reduceAdd, Nat.reduceMul, Nat.reduceSub, reduceCtorEq, RC, Int.cast_ofNat_Int, hn, g5, g6, g8, g10, g11, g12, g13, g14, g15]
        refine hS.eAppend 1 rfl (hS.rd 0 rfl) tP29 (by simp only [nts, List.length_map, List.length_cons, List.length_nil]; omega) fun lw' H5 hS => ?_
        simp only [List.nil_append, List.cons_append, List.append_nil, List.set_cons_zero, List.set_cons_succ, setMany_cons, setMany_nil, Nat.zero_add, Nat.mul_one, Nat.add_zero] at hS
        repeat first | (with_reducible first | refine Wp.seq ?_ | refine Wp.reg ?_ | refine Wp.block ?_ | refine Wp.skip ?_ | refine Wp.ret ?_ | refine Wp.exit ?_ | refine Wp.label ?_ | refine Wp.condG ?_) | simp (disch := omega) only [↓RP, RQ, TS, TR, ↓reduceIte, Nat.reduceEqDiff, Nat.reduceLT, Nat.reduceLeDiff, Int.reduceLT, Int.reduceLE, Int.reduceEq, Int.reduceAdd, Int.reduceSub, Int.reduceNeg, Int.reduceToNat, Nat.reduceAdd, Nat.reduceMul, Nat.reduceSub, reduceCtorEq, RC, Int.cast_ofNat_Int, hn, g5, g6, g8, g10, g11, g12, g13, g14, g15, wrap_fit]
        refine ⟨m - 1, by omega, k + 1, lw', by omega, rfl, rfl, ?_⟩
        rw [hgs, show nts (grp ds i k ++ [k]) = nts (grp ds i k) ++ [I k] from by simp [nts]]
        exact hS.tail
      · rw [decide_eq_false e0, Bool.false_or] at hmu
        have d0 : decide ((i : Int) = (k : Int)) = false := decide_eq_false (by omega)
        have c1 : decide ((0 : Int) < ((rows i).getD k 0 : Nat)) = decide (0 < (rows i).getD k 0) := by
          rw [Bool.eq_iff_iff, decide_eq_true_eq, decide_eq_true_eq]; omega
        have c2 : decide ((0 : Int) < ((rows k).getD i 0 : Nat)) = decide (0 < (rows k).getD i 0) := by
          rw [Bool.eq_iff_iff, decide_eq_true_eq, decide_eq_true_eq]; omega
        generalize decide (0 < (rows i).getD k 0) = b1 at hmu c1
        generalize decide (0 < (rows k).getD i 0) = b2 at hmu c2
        cases b1 with
        | false =>
          rw [Bool.false_and] at hmu
          rw [hmu, if_neg (by decide), List.append_nil] at hgs
          repeat first | (with_reducible first | refine Wp.seq ?_ | refine Wp.reg ?_ | refine Wp.block ?_ | refine Wp.skip ?_ | refine Wp.ret ?_ | refine Wp.exit ?_ | refine Wp.label ?_ | refine Wp.condG ?_) | simp (disch := omega) only [↓RP, RQ, TS, TR, ↓reduceIte, Nat.reduceEqDiff, Nat.reduceLT, Nat.reduceLeDiff, Int.reduceLT, Int.reduceLE, Int.reduceEq, Int.reduceAdd, Int.reduceSub, Int.reduceNeg, Int.reduceToNat, Nat.reduceAdd, Nat.reduceMul, Nat.reduceSub, reduceCtorEq, RC, Int.cast_ofNat_Int, hn, g5, g6, g8, g10, g11, g12, g13, g14, g15, d0, hstv.idx, hstv.ld 0, getD_range, hri.idx, hri.ld 0, c1, wrap_fit]
          refine ⟨m - 1, by omega, k + 1, lw, by omega, rfl, rfl, ?_⟩
          rw [hgs]
          exact hS
        | true =>
          rw [Bool.true_and] at hmu
          cases b2 with
          | false =>
            rw [hmu, if_neg (by decide), List.append_nil] at hgs
            repeat first | (with_reducible first | refine Wp.seq ?_ | refine Wp.reg ?_ | refine Wp.block ?_ | refine Wp.skip ?_ | refine Wp.ret ?_ | refine Wp.exit ?_ | refine Wp.label ?_ | refine Wp.condG ?_) | simp (disch := omega) only [↓RP, RQ, TS, TR, ↓reduceIte, Nat.reduceEqDiff, Nat.reduceLT, Nat.reduceLeDiff, Int.reduceLT, Int.reduceLE, Int.reduceEq, Int.reduceAdd, Int.reduceSub, Int.reduceNeg, Int.reduceToNat, Nat.reduceAdd, Nat.reduceMul, Nat.reduceSub, reduceCtorEq, RC, Int.cast_ofNat_Int, hn, g5, g6, g8, g10, g11, g12, g13, g14, g15, d0, hstv.idx, hstv.ld 0, getD_range, hri.idx, hri.ld 0, hrk.idx, hrk.ld 0, c1, c2, wrap_fit]
            refine ⟨m - 1, by omega, k + 1, lw, by omega, rfl, rfl, ?_⟩
            rw [hgs]
            exact hS
          | true =>
            rw [hmu, if_pos rfl] at hgs
            repeat first | (with_reducible first | refine Wp.seq ?_ | refine Wp.reg ?_ | refine Wp.block ?_ | refine Wp.skip ?_ | refine Wp.ret ?_ | refine Wp.exit ?_ | refine Wp.label ?_ | refine Wp.condG ?_) | simp (disch := omega) only [↓RP, RQ, TS, TR, ↓reduceIte, Nat.reduceEqDiff, Nat.reduceLT, Nat.reduceLeDiff, Int.reduceLT, Int.reduceLE, Int.reduceEq, Int.reduceAdd, Int.reduceSub, Int.reduceNeg, Int.reduceToNat, Nat.reduceAdd, Nat.reduceMul, Nat.reduceSub, reduceCtorEq, RC, Int.cast_ofNat_Int, hn, g5, g6, g8, g10, g11, g12, g13, g14, g15, d0, hstv.idx, hstv.ld 0, getD_range, hri.idx, hri.ld 0, hrk.idx, hrk.ld 0, c1, c2]
            refine hS.eSlice [I k] tP29 tF29 rfl rfl (by simp [Value.cells]) rfl rfl (by decide) (by decide) fun y H4 hS => ?_
            have hS := hS.front
            repeat first | (with_reducible first | refine Wp.seq ?_ | refine Wp.reg ?_ | refine Wp.block ?_ | refine Wp.skip ?_ | refine Wp.ret ?_ | refine Wp.exit ?_ | refine Wp.label ?_ | refine Wp.condG ?_) | simp (disch := omega) only [↓RP, RQ, TS, TR, ↓reduceIte, Nat.reduceEqDiff, Nat.reduceLT, Nat.reduceLeDiff, Int.reduceLT, Int.reduceLE, Int.reduceEq, Int.reduceAdd, Int.reduceSub, Int.reduceNeg, Int.reduceToNat, Nat.reduceAdd, Nat.reduceMul, Nat.reduceSub, reduceCtorEq, RC, Int.cast_ofNat_Int, hn, g5, g6, g8, g10, g11, g12, g13, g14, g15]
            refine hS.eAppend 1 rfl (hS.rd 0 rfl) tP29 (by simp only [nts, List.length_map, List.length_cons, List.length_nil]; omega) fun lw' H5 hS => ?_
            simp only [List.nil_append, List.cons_append, List.append_nil, List.set_cons_zero, List.set_cons_succ, setMany_cons, setMany_nil, Nat.zero_add, Nat.mul_one, Nat.add_zero] at hS
            repeat first | (with_reducible first | refine Wp.seq ?_ | refine Wp.reg ?_ | refine Wp.block ?_ | refine Wp.skip ?_ | refine Wp.ret ?_ | refine Wp.exit ?_ | refine Wp.label ?_ | refine Wp.condG ?_) | simp (disch := omega) only [↓RP, RQ, TS, TR, ↓reduceIte, Nat.reduceEqDiff, Nat.reduceLT, Nat.reduceLeDiff, Int.reduceLT, Int.reduceLE, Int.reduceEq, Int.reduceAdd, Int.reduceSub, Int.reduceNeg, Int.reduceToNat, Nat.reduceAdd, Nat.reduceMul, Nat.reduceSub, reduceCtorEq, RC, Int.cast_ofNat_Int, hn, g5, g6, g8, g10, g11, g12, g13, g14, g15, wrap_fit]
            refine ⟨m - 1, by omega, k + 1, lw', by omega, rfl, rfl, ?_⟩
            rw [hgs, show nts (grp ds i k ++ [k]) = nts (grp ds i k) ++ [I k] from by simp [nts]]
            exact hS.tail
    · have hke : k = N := by omega
      subst hke
      have hlw : Sl1 H' lw (fun n : Nat => I n) (grp ds i k) := hS.rd 0 rfl
      have hwg : Sl1 H' wg (fun j => I (gt ds k i j)) (List.range k) := hS.rd 1 rfl
      have hgl := grp_le ds i k
      have hset : ∀ x : Int, x = cn ds k i → (tb k (gt ds k i)).set i (I x) = tb k (gt ds k (i + 1)) := fun x hx => by
        have e : gt ds k (i + 1) i = x := by unfold gt; rw [if_pos (by omega), hx]
        rw [← e]
        refine tb_set k (gt ds k i) (gt ds k (i + 1)) i fun j hj => ?_
        unfold gt
        by_cases hji : j < i
        · rw [if_pos hji, if_pos (by omega)]
        · rw [if_neg hji, if_neg (by omega)]
      have hg0 := hgh.1
      have hgp := hgh.2
      repeat first | (with_reducible first | refine Wp.seq ?_ | refine Wp.reg ?_ | refine Wp.block ?_ | refine Wp.skip ?_ | refine Wp.ret ?_ | refine Wp.exit ?_ | refine Wp.label ?_ | refine Wp.condG ?_) | simp (disch := omega) only [↓RP, RQ, TS, TR, ↓reduceIte, Nat.reduceEqDiff, Nat.reduceLT, Nat.reduceLeDiff, Int.reduceLT, Int.reduceLE, Int.reduceEq, Int.reduceAdd, Int.reduceSub, Int.reduceNeg, Int.reduceToNat, Nat.reduceAdd, Nat.reduceMul, Nat.reduceSub, reduceCtorEq, RC, Int.cast_ofNat_Int, hn, g5, g6, g8, g10, g11, g12, g13, g14, hlw.idx, hlw.ld 0, hg0]
      refine condW_split (fun h5 => ?_) (fun h5 => ?_)
      · have hli : ld ds i < i := by omega
        have hcn := cn_ld hQ hiN
        have hgt : gt ds k i (ld ds i) = cn ds k i := by unfold gt; rw [if_pos hli, hcn]
        repeat first | (with_reducible first | refine Wp.seq ?_ | refine Wp.reg ?_ | refine Wp.block ?_ | refine Wp.skip ?_ | refine Wp.ret ?_ | refine Wp.exit ?_ | refine Wp.label ?_ | refine Wp.condG ?_) | simp (disch := omega) only [↓RP, RQ, TS, TR, ↓reduceIte, Nat.reduceEqDiff, Nat.reduceLT, Nat.reduceLeDiff, Int.reduceLT, Int.reduceLE, Int.reduceEq, Int.reduceAdd, Int.reduceSub, Int.reduceNeg, Int.reduceToNat, Nat.reduceAdd, Nat.reduceMul, Nat.reduceSub, reduceCtorEq, RC, Int.cast_ofNat_Int, hn, g5, g6, g8, g10, g11, g12, g13, g14, hlw.idx, hlw.ld 0, hg0, hwg.idx, hwg.ld 0, getD_range, hgt]
        refine hS.eStoreE 1 rfl [_] rfl rfl tS3 (by simp) (by simp only [List.length_map, List.length_cons, List.length_nil]; omega) fun H5 hS => ?_
        simp only [List.nil_append, List.cons_append, List.append_nil, List.set_cons_zero, List.set_cons_succ, setMany_cons, setMany_nil, Nat.zero_add, Nat.mul_one, Nat.add_zero] at hS
        rw [hset _ rfl] at hS
        repeat first | (with_reducible first | refine Wp.seq ?_ | refine Wp.reg ?_ | refine Wp.block ?_ | refine Wp.skip ?_ | refine Wp.ret ?_ | refine Wp.exit ?_ | refine Wp.label ?_ | refine Wp.condG ?_) | simp (disch := omega) only [↓RP, RQ, TS, TR, ↓reduceIte, Nat.reduceEqDiff, Nat.reduceLT, Nat.reduceLeDiff, Int.reduceLT, Int.reduceLE, Int.reduceEq, Int.reduceAdd, Int.reduceSub, Int.reduceNeg, Int.reduceToNat, Nat.reduceAdd, Nat.reduceMul, Nat.reduceSub, reduceCtorEq, RC, Int.cast_ofNat_Int, hn, g5, g6, g8, g10, g11, g12, g13, g14, wrap_fit]
        refine ⟨n - 1, by omega, i + 1, by omega, rfl, ?_, hS.tail⟩
        rw [lds_succ, if_neg (by omega), List.append_nil]
      · have hli : ld ds i = i := by omega
        have hlt : (lds ds i).length < (lds ds k).length := by
          have := lds_mono ds (show i + 1 ≤ k by omega)
          rw [lds_succ, if_pos hli, List.length_append, List.length_singleton] at this
          omega
        have hgr : gr ds k (lds ds i).length = grp ds i k := by unfold gr; rw [lds_pre ds k i hiN hli]
        have hov : Sl1 H' ov ws (List.range (lds ds k).length) := hS.rd 5 rfl
        have hcn : Sl1 H' (ws (lds ds i).length) (fun n : Nat => I n) (gr ds k (lds ds i).length) := hS.rd ((lds ds i).length + 6) (inner_getA _ ws _ _ _ hlt)
        have hM2 := lds_le ds k
        have dge : decide (((lds ds k).length : Int) ≤ ((lds ds i).length : Int)) = false := decide_eq_false (by omega)
        rw [hgr] at hcn
        repeat first | (with_reducible first | refine Wp.seq ?_ | refine Wp.reg ?_ | refine Wp.block ?_ | refine Wp.skip ?_ | refine Wp.ret ?_ | refine Wp.exit ?_ | refine Wp.label ?_ | refine Wp.condG ?_) | simp (disch := omega) only [↓RP, RQ, TS, TR, ↓reduceIte, Nat.reduceEqDiff, Nat.reduceLT, Nat.reduceLeDiff, Int.reduceLT, Int.reduceLE, Int.reduceEq, Int.reduceAdd, Int.reduceSub, Int.reduceNeg, Int.reduceToNat, Nat.reduceAdd, Nat.reduceMul, Nat.reduceSub, reduceCtorEq, RC, Int.cast_ofNat_Int, hn, g5, g6, g8, g10, g11, g12, g13, g14, hov.len, hrlM, dge, hov.idx, hov.ld 0, getD_range]
        refine callFW_of (same_ok (ws (lds ds i).length) lw ((grp ds i k).map Nat.cast) ((grp ds i k).map Nat.cast) ?_ ?_ (by rw [List.length_map]; omega)) ?_
        · unfold Sl1
          rw [List.map_map]
          exact hcn
        · unfold Sl1
          rw [List.map_map]
          exact hlw
        rintro r H5 ⟨rfl, rfl⟩
        rw [decide_eq_true rfl]
        repeat first | (with_reducible first | refine Wp.seq ?_ | refine Wp.reg ?_ | refine Wp.block ?_ | refine Wp.skip ?_ | refine Wp.ret ?_ | refine Wp.exit ?_ | refine Wp.label ?_ | refine Wp.condG ?_) | simp (disch := omega) only [↓RP, RQ, TS, TR, ↓reduceIte, Nat.reduceEqDiff, Nat.reduceLT, Nat.reduceLeDiff, Int.reduceLT, Int.reduceLE, Int.reduceEq, Int.reduceAdd, Int.reduceSub, Int.reduceNeg, Int.reduceToNat, Nat.reduceAdd, Nat.reduceMul, Nat.reduceSub, reduceCtorEq, RC, Int.cast_ofNat_Int, hn, g5, g6, g8, g10, g11, g12, g13, g14, hwg.idx]
        refine hS.eStoreE 1 rfl [_] rfl rfl tS3 (by simp) (by simp only [List.length_map, List.length_cons, List.length_nil]; omega) fun H6 hS => ?_
        simp only [List.nil_append, List.cons_append, List.append_nil, List.set_cons_zero, List.set_cons_succ, setMany_cons, setMany_nil, Nat.zero_add, Nat.mul_one, Nat.add_zero] at hS
        rw [hset _ (by unfold cn; rw [hli, if_pos hiN])] at hS
        repeat first | (with_reducible first | refine Wp.seq ?_ | refine Wp.reg ?_ | refine Wp.block ?_ | refine Wp.skip ?_ | refine Wp.ret ?_ | refine Wp.exit ?_ | refine Wp.label ?_ | refine Wp.condG ?_) | simp (disch := omega) only [↓RP, RQ, TS, TR, ↓reduceIte, Nat.reduceEqDiff, Nat.reduceLT, Nat.reduceLeDiff, Int.reduceLT, Int.reduceLE, Int.reduceEq, Int.reduceAdd, Int.reduceSub, Int.reduceNeg, Int.reduceToNat, Nat.reduceAdd, Nat.reduceMul, Nat.reduceSub, reduceCtorEq, RC, Int.cast_ofNat_Int, hn, g5, g6, g8, g10, g11, g12, g13, g14, wrap_fit]
        refine ⟨n - 1, by omega, i + 1, by omega, rfl, ?_, hS.tail⟩
        rw [lds_succ, if_pos hli, List.length_append, List.length_singleton]
        rfl
  · have hie : i = N := by omega
    subst hie
    have e2 : tb i (gt ds i i) = tb i (cn ds i) := List.map_congr_left fun k hk => by
      unfold gt
      rw [if_pos (List.mem_range.1 hk)]
    rw [e2] at hS
    have hov : Sl1 H' ov ws (List.range (lds ds i).length) := hS.rd 4 rfl
    repeat first | (with_reducible first | refine Wp.seq ?_ | refine Wp.reg ?_ | refine Wp.block ?_ | refine Wp.skip ?_ | refine Wp.ret ?_ | refine Wp.exit ?_ | refine Wp.label ?_ | refine Wp.condG ?_) | simp (disch := omega) only [↓RP, RQ, TS, TR, ↓reduceIte, Nat.reduceEqDiff, Nat.reduceLT, Nat.reduceLeDiff, Int.reduceLT, Int.reduceLE, Int.reduceEq, Int.reduceAdd, Int.reduceSub, Int.reduceNeg, Int.reduceToNat, Nat.reduceAdd, Nat.reduceMul, Nat.reduceSub, reduceCtorEq, RC, Int.cast_ofNat_Int, hn, g5, g6, g8, g10, g11, g12, g13, hov.len, hrlM]
    have hS := (hS.sub (os' := ⟨wg, 1, tb i (cn ds i)⟩ :: ⟨ptr B 0 2, 0, [I (lds ds i).length, wd]⟩ :: ⟨lv, 2, eg (sd (xe ds i es)) ++ rest⟩ :: ⟨ptr A 0 2, 0, [I i, w]⟩ :: []) (.cons_cons _ (.cons_cons _ (.cons_cons _ (.cons_cons _ (List.nil_sublist _)))))).nil 1 |>.front
    clear hov g6 g10 g13
    generalize hMM : (lds ds i).length = M at g12 hS hM hrlM
    refine Wp.loopN (fun n l H' => l.length = 193 ∧ get l 5 = ptr A 0 2 ∧ get l 8 = ptr B 0 2 ∧ get l 11 = wg ∧ get l 12 = I M ∧ ∃ (a : Nat) (dv : Value), n + a = M ∧ get l 17 = I a ∧ get l 16 = dv ∧
      St Try.prog H2 H' (⟨dv, 2, eg (dA (lead ds i es es.length) M a)⟩ :: ⟨wg, 1, tb i (cn ds i)⟩ :: ⟨ptr B 0 2, 0, [I M, wd]⟩ :: ⟨lv, 2, eg (sd (xe ds i es)) ++ rest⟩ :: ⟨ptr A 0 2, 0, [I i, w]⟩ :: [])) M ?_ ?_
    · repeat first | (with_reducible first | refine Wp.seq ?_ | refine Wp.reg ?_ | refine Wp.block ?_ | refine Wp.skip ?_ | refine Wp.ret ?_ | refine Wp.exit ?_ | refine Wp.label ?_ | refine Wp.condG ?_) | simp (disch := omega) only [↓RP, RQ, TS, TR, ↓reduceIte, Nat.reduceEqDiff, Nat.reduceLT, Nat.reduceLeDiff, Int.reduceLT, Int.reduceLE, Int.reduceEq, Int.reduceAdd, Int.reduceSub, Int.reduceNeg, Int.reduceToNat, Nat.reduceAdd, Nat.reduceMul, Nat.reduceSub, reduceCtorEq, RC, Int.cast_ofNat_Int, hn, g5, g8, g11, g12]
      exact ⟨0, _, rfl, rfl, rfl, hS⟩
    clear hS hn g5 g8 g11 g12
    rintro n l H' ⟨hn, g5, g8, g11, g12, a, dv, han, g17, g16, hS⟩
    repeat first | (with_reducible first | refine Wp.seq ?_ | refine Wp.reg ?_ | refine Wp.block ?_ | refine Wp.skip ?_ | refine Wp.ret ?_ | refine Wp.exit ?_ | refine Wp.label ?_ | refine Wp.condG ?_) | simp (disch := omega) only [↓RP, RQ, TS, TR, ↓reduceIte, Nat.reduceEqDiff, Nat.reduceLT, Nat.reduceLeDiff, Int.reduceLT, Int.reduceLE, Int.reduceEq, Int.reduceAdd, Int.reduceSub, Int.reduceNeg, Int.reduceToNat, Nat.reduceAdd, Nat.reduceMul, Nat.reduceSub, reduceCtorEq, RC, Int.cast_ofNat_Int, hn, g5, g8, g11, g12, g16, g17]
    refine condW_split (fun h4 => ?_) (fun h4 => ?_)
    · have haM : a < M := by omega
      have hdl := dA_le (lead ds i es es.length) M a
      have hsq : a * M ≤ 7 * 7 := Nat.mul_le_mul (by omega) (by omega)
      repeat first | (with_reducible first | refine Wp.seq ?_ | refine Wp.reg ?_ | refine Wp.block ?_ | refine Wp.skip ?_ | refine Wp.ret ?_ | refine Wp.exit ?_ | refine Wp.label ?_ | refine Wp.condG ?_) | simp (disch := omega) only [↓RP, RQ, TS, TR, ↓reduceIte, Nat.reduceEqDiff, Nat.reduceLT, Nat.reduceLeDiff, Int.reduceLT, Int.reduceLE, Int.reduceEq, Int.reduceAdd, Int.reduceSub, Int.reduceNeg, Int.reduceToNat, Nat.reduceAdd, Nat.reduceMul, Nat.reduceSub, reduceCtorEq, RC, Int.cast_ofNat_Int, hn, g5, g8, g11, g12, g16, g17]
      have hS := hS.sub (os' := ⟨dv, 2, eg (dA (lead ds i es es.length) M a ++ dr (lead ds i es es.length) a 0)⟩ :: ⟨wg, 1, tb i (cn ds i)⟩ :: ⟨ptr B 0 2, 0, [I M, wd]⟩ :: ⟨lv, 2, eg (sd (xe ds i es)) ++ rest⟩ :: ⟨ptr A 0 2, 0, [I i, w]⟩ :: []) (by
        rw [show dA (lead ds i es es.length) M a ++ dr (lead ds i es es.length) a 0 = dA (lead ds i es es.length) M a from by simp [dr]]
        exact List.Sublist.refl _)
      refine Wp.loopN (fun m l H' => l.length = 193 ∧ get l 5 = ptr A 0 2 ∧ get l 8 = ptr B 0 2 ∧ get l 11 = wg ∧ get l 12 = I M ∧ get l 17 = I a ∧ ∃ (b : Nat) (dv : Value), m + b = M ∧ get l 18 = I b ∧ get l 16 = dv ∧
        St Try.prog H2 H' (⟨dv, 2, eg (dA (lead ds i es es.length) M a ++ dr (lead ds i es es.length) a b)⟩ :: ⟨wg, 1, tb i (cn ds i)⟩ :: ⟨ptr B 0 2, 0, [I M, wd]⟩ :: ⟨lv, 2, eg (sd (xe ds i es)) ++ rest⟩ :: ⟨ptr A 0 2, 0, [I i, w]⟩ :: [])) M ?_ ?_
      · repeat first | (with_reducible first | refine Wp.seq ?_ | refine Wp.reg ?_ | refine Wp.block ?_ | refine Wp.skip ?_ | refine Wp.ret ?_ | refine Wp.exit ?_ | refine Wp.label ?_ | refine Wp.condG ?_) | simp (disch := omega) only [↓RP, RQ, TS, TR, ↓reduceIte, Nat.reduceEqDiff, Nat.reduceLT, Nat.reduceLeDiff, Int.reduceLT, Int.reduceLE, Int.reduceEq, Int.reduceAdd, Int.reduceSub, Int.reduceNeg, Int.reduceToNat, Nat.reduceAdd, Nat.reduceMul, Nat.reduceSub, reduceCtorEq, RC, Int.cast_ofNat_Int, hn, g5, g8, g11, g12, g16, g17]
        exact ⟨0, _, rfl, rfl, rfl, hS⟩
      clear hS hn g5 g8 g11 g12 g16 g17
      rintro m l H' ⟨hn, g5, g8, g11, g12, g17, b, dv, hbm, g18, g16, hS⟩
      repeat first | (with_reducible first | refine Wp.seq ?_ | refine Wp.reg ?_ | refine Wp.block ?_ | refine Wp.skip ?_ | refine Wp.ret ?_ | refine Wp.exit ?_ | refine Wp.label ?_ | refine Wp.condG ?_) | simp (disch := omega) only [↓RP, RQ, TS, TR, ↓reduceIte, Nat.reduceEqDiff, Nat.reduceLT, Nat.reduceLeDiff, Int.reduceLT, Int.reduceLE, Int.reduceEq, Int.reduceAdd, Int.reduceSub, Int.reduceNeg, Int.reduceToNat, Nat.reduceAdd, Nat.reduceMul, Nat.reduceSub, reduceCtorEq, RC, Int.cast_ofNat_Int, hn, g5, g8, g11, g12, g16, g17, g18]
      refine condW_split (fun h5 => ?_) (fun h5 => ?_)
      · have hbM : b < M := by omega
        have hv1 : Sl2 H' w _ _ es := hS.base hE
        repeat first | (with_reducible first | refine Wp.seq ?_ | refine Wp.reg ?_ | refine Wp.block ?_ | refine Wp.skip ?_ | refine Wp.ret ?_ | refine Wp.exit ?_ | refine Wp.label ?_ | refine Wp.condG ?_) | simp (disch := omega) only [↓RP, RQ, TS, TR, ↓reduceIte, Nat.reduceEqDiff, Nat.reduceLT, Nat.reduceLeDiff, Int.reduceLT, Int.reduceLE, Int.reduceEq, Int.reduceAdd, Int.reduceSub, Int.reduceNeg, Int.reduceToNat, Nat.reduceAdd, Nat.reduceMul, Nat.reduceSub, reduceCtorEq, RC, Int.cast_ofNat_Int, hn, g5, g8, g11, g12, g16, g17, g18, hS.ld 4 rfl, hv1.len]
        refine Wp.loopN (fun p l H' => l.length = 193 ∧ get l 5 = ptr A 0 2 ∧ get l 8 = ptr B 0 2 ∧ get l 11 = wg ∧ get l 12 = I M ∧ get l 16 = dv ∧ get l 17 = I a ∧ get l 18 = I b ∧ get l 151 = w ∧ get l 152 = I es.length ∧ ∃ j : Nat, p + j = es.length ∧ get l 153 = I j ∧ get l 19 = .bool (lead ds i es j a b) ∧
          St Try.prog H2 H' (⟨dv, 2, eg (dA (lead ds i es es.length) M a ++ dr (lead ds i es es.length) a b)⟩ :: ⟨wg, 1, tb i (cn ds i)⟩ :: ⟨ptr B 0 2, 0, [I M, wd]⟩ :: ⟨lv, 2, eg (sd (xe ds i es)) ++ rest⟩ :: ⟨ptr A 0 2, 0, [I i, w]⟩ :: [])) es.length ?_ ?_
        · repeat first | (with_reducible first | refine Wp.seq ?_ | refine Wp.reg ?_ | refine Wp.block ?_ | refine Wp.skip ?_ | refine Wp.ret ?_ | refine Wp.exit ?_ | refine Wp.label ?_ | refine Wp.condG ?_) | simp (disch := omega) only [↓RP, RQ, TS, TR, ↓reduceIte, Nat.reduceEqDiff, Nat.reduceLT, Nat.reduceLeDiff, Int.reduceLT, Int.reduceLE, Int.reduceEq, Int.reduceAdd, Int.reduceSub, Int.reduceNeg, Int.reduceToNat, Nat.reduceAdd, Nat.reduceMul, Nat.reduceSub, reduceCtorEq, RC, Int.cast_ofNat_Int, hn, g5, g8, g11, g12, g16, g17, g18]
          exact ⟨0, rfl, rfl, rfl, hS⟩
        clear hS hn g5 g8 g11 g12 g16 g17 g18 hv1
        rintro p l H' ⟨hn, g5, g8, g11, g12, g16, g17, g18, g151, g152, j, hpj, g153, g19, hS⟩
        have hv1 : Sl2 H' w _ _ es := hS.base hE
        repeat first | (with_reducible first | refine Wp.seq ?_ | refine Wp.reg ?_ | refine Wp.block ?_ | refine Wp.skip ?_ | refine Wp.ret ?_ | refine Wp.exit ?_ | refine Wp.label ?_ | refine Wp.condG ?_) | simp (disch := omega) only [↓RP, RQ, TS, TR, ↓reduceIte, Nat.reduceEqDiff, Nat.reduceLT, Nat.reduceLeDiff, Int.reduceLT, Int.reduceLE, Int.reduceEq, Int.reduceAdd, Int.reduceSub, Int.reduceNeg, Int.reduceToNat, Nat.reduceAdd, Nat.reduceMul, Nat.reduceSub, reduceCtorEq, RC, Int.cast_ofNat_Int, hn, g5, g8, g11, g12, g16, g17, g18, g151, g152, g153, g19]
        refine condW_split (fun h6 => ?_) (fun h6 => ?_)
        · have hjl : j < es.length := by omega
          have hm := hval _ (getD_mem (0, 0) hjl)
          have hls := lead_succ ds i es j a b hjl
          repeat first | (with_reducible first | refine Wp.seq ?_ | refine Wp.reg ?_ | refine Wp.block ?_ | refine Wp.skip ?_ | refine Wp.ret ?_ | refine Wp.exit ?_ | refine Wp.label ?_ | refine Wp.condG ?_) | simp (disch := omega) only [↓RP, RQ, TS, TR, ↓reduceIte, Nat.reduceEqDiff, Nat.reduceLT, Nat.reduceLeDiff, Int.reduceLT, Int.reduceLE, Int.reduceEq, Int.reduceAdd, Int.reduceSub, Int.reduceNeg, Int.reduceToNat, Nat.reduceAdd, Nat.reduceMul, Nat.reduceSub, reduceCtorEq, RC, Int.cast_ofNat_Int, hn, g5, g8, g11, g12, g16, g17, g18, g151, g152, g153, g19, hv1.idx, hv1.ldA (0, 0)]
          refine hS.eNew 2 [I 0, I 0] rfl rfl rfl tS48 fun C H7 hS => ?_
          have hS := hS.front
          repeat first | (with_reducible first | refine Wp.seq ?_ | refine Wp.reg ?_ | refine Wp.block ?_ | refine Wp.skip ?_ | refine Wp.ret ?_ | refine Wp.exit ?_ | refine Wp.label ?_ | refine Wp.condG ?_) | simp (disch := omega) only [↓RP, RQ, TS, TR, ↓reduceIte, Nat.reduceEqDiff, Nat.reduceLT, Nat.reduceLeDiff, Int.reduceLT, Int.reduceLE, Int.reduceEq, Int.reduceAdd, Int.reduceSub, Int.reduceNeg, Int.reduceToNat, Nat.reduceAdd, Nat.reduceMul, Nat.reduceSub, reduceCtorEq, RC, Int.cast_ofNat_Int, hn, g5, g8, g11, g12, g16, g17, g18, g151, g152, g153, g19]
          refine hS.eStore 0 rfl [_, _] rfl rfl tS48 (by simp) fun H8 hS => ?_
          simp only [List.nil_append, List.cons_append, List.append_nil, List.set_cons_zero, List.set_cons_succ, setMany_cons, setMany_nil, Nat.zero_add, Nat.mul_one, Nat.add_zero] at hS
          have hwg : Sl1 H8 wg (fun k => I (cn ds i k)) (List.range i) := hS.rd 2 rfl
          have hrl : (List.range i).length = i := List.length_range
          generalize hz1 : lead ds i es (j + 1) a b = z1 at hls
          generalize lead ds i es j a b = z0 at hls g19
          cases z0 with
          | true =>
            rw [Bool.true_or] at hls
            subst hls
            repeat first | (with_reducible first | refine Wp.seq ?_ | refine Wp.reg ?_ | refine Wp.block ?_ | refine Wp.skip ?_ | refine Wp.ret ?_ | refine Wp.exit ?_ | refine Wp.label ?_ | refine Wp.condG ?_) | simp (disch := omega) only [↓RP, RQ, TS, TR, ↓reduceIte, Nat.reduceEqDiff, Nat.reduceLT, Nat.reduceLeDiff, Int.reduceLT, Int.reduceLE, Int.reduceEq, Int.reduceAdd, Int.reduceSub, Int.reduceNeg, Int.reduceToNat, Nat.reduceAdd, Nat.reduceMul, Nat.reduceSub, reduceCtorEq, RC, Int.cast_ofNat_Int, hn, g5, g8, g11, g12, g16, g17, g18, g151, g152, g153, g19, wrap_fit]
            exact ⟨p - 1, by omega, j + 1, by omega, rfl, by rw [hz1], hS.tail⟩
          | false =>
            rw [Bool.false_or] at hls
            by_cases e0 : a = b
            · have d0 : decide (¬ (a : Int) = (b : Int)) = false := decide_eq_false (by omega)
              obtain rfl : z1 = false := by rw [hls]; exact decide_eq_false fun hh => hh.1 e0
              repeat first | (with_reducible first | refine Wp.seq ?_ | refine Wp.reg ?_ | refine Wp.block ?_ | refine Wp.skip ?_ | refine Wp.ret ?_ | refine Wp.exit ?_ | refine Wp.label ?_ | refine Wp.condG ?_) | simp (disch := omega) only [↓RP, RQ, TS, TR, ↓reduceIte, Nat.reduceEqDiff, Nat.reduceLT, Nat.reduceLeDiff, Int.reduceLT, Int.reduceLE, Int.reduceEq, Int.reduceAdd, Int.reduceSub, Int.reduceNeg, Int.reduceToNat, Nat.reduceAdd, Nat.reduceMul, Nat.reduceSub, reduceCtorEq, RC, Int.cast_ofNat_Int, hn, g5, g8, g11, g12, g16, g17, g18, g151, g152, g153, g19, d0, wrap_fit]
              exact ⟨p - 1, by omega, j + 1, by omega, rfl, by rw [hz1], hS.tail⟩
            have d0 : decide (¬ (a : Int) = (b : Int)) = true := decide_eq_true (by omega)
            by_cases e1 : cn ds i (es.getD j (0, 0)).1 = (a : Int)
            · have d1 : decide (cn ds i (es.getD j (0, 0)).1 = (a : Int)) = true := decide_eq_true e1
              by_cases e2 : cn ds i (es.getD j (0, 0)).2 = (b : Int)
              · have d2 : decide (cn ds i (es.getD j (0, 0)).2 = (b : Int)) = true := decide_eq_true e2
                obtain rfl : z1 = true := by rw [hls]; exact decide_eq_true ⟨e0, e1, e2⟩
                repeat first | (with_reducible first | refine Wp.seq ?_ | refine Wp.reg ?_ | refine Wp.block ?_ | refine Wp.skip ?_ | refine Wp.ret ?_ | refine Wp.exit ?_ | refine Wp.label ?_ | refine Wp.condG ?_) | simp (disch := omega) only [↓RP, RQ, TS, TR, ↓reduceIte, Nat.reduceEqDiff, Nat.reduceLT, Nat.reduceLeDiff, Int.reduceLT, Int.reduceLE, Int.reduceEq, Int.reduceAdd, Int.reduceSub, Int.reduceNeg, Int.reduceToNat, Nat.reduceAdd, Nat.reduceMul, Nat.reduceSub, reduceCtorEq, RC, Int.cast_ofNat_Int, hn, g5, g8, g11, g12, g16, g17, g18, g151, g152, g153, g19, d0, d1, d2, hS.ld 0 rfl, hwg.idx, hwg.ld 0, getD_range, wrap_fit]
                exact ⟨p - 1, by omega, j + 1, by omega, rfl, by rw [hz1], hS.tail⟩
              · have d2 : decide (cn ds i (es.getD j (0, 0)).2 = (b : Int)) = false := decide_eq_false e2
                obtain rfl : z1 = false := by rw [hls]; exact decide_eq_false fun hh => e2 hh.2.2
                repeat first | (with_reducible first | refine Wp.seq ?_ | refine Wp.reg ?_ | refine Wp.block ?_ | refine Wp.skip ?_ | refine Wp.ret ?_ | refine Wp.exit ?_ | refine Wp.label ?_ | refine Wp.condG ?_) | simp (disch := omega) only [↓RP, RQ, TS, TR, ↓reduceIte, Nat.reduceEqDiff, Nat.reduceLT, Nat.reduceLeDiff, Int.reduceLT, Int.reduceLE, Int.reduceEq, Int.reduceAdd, Int.reduceSub, Int.reduceNeg, Int.reduceToNat, Nat.reduceAdd, Nat.reduceMul, Nat.reduceSub, reduceCtorEq, RC, Int.cast_ofNat_Int, hn, g5, g8, g11, g12, g16, g17, g18, g151, g152, g153, g19, d0, d1, d2, hS.ld 0 rfl, hwg.idx, hwg.ld 0, getD_range, wrap_fit]
                exact ⟨p - 1, by omega, j + 1, by omega, rfl, by rw [hz1], hS.tail⟩
            · have d1 : decide (cn ds i (es.getD j (0, 0)).1 = (a : Int)) = false := decide_eq_false e1
              obtain rfl : z1 = false := by rw [hls]; exact decide_eq_false fun hh => e1 hh.2.1
              repeat first | (with_reducible first | refine Wp.seq ?_ | refine Wp.reg ?_ | refine Wp.block ?_ | refine Wp.skip ?_ | refine Wp.ret ?_ | refine Wp.exit ?_ | refine Wp.label ?_ | refine Wp.condG ?_) | simp (disch := omega) only [↓RP, RQ, TS, TR, ↓reduceIte, Nat.reduceEqDiff, Nat.reduceLT, Nat.reduceLeDiff, Int.reduceLT, Int.reduceLE, Int.reduceEq, Int.reduceAdd, Int.reduceSub, Int.reduceNeg, Int.reduceToNat, Nat.reduceAdd, Nat.reduceMul, Nat.reduceSub, reduceCtorEq, RC, Int.cast_ofNat_Int, hn, g5, g8, g11, g12, g16, g17, g18, g151, g152, g153, g19, d0, d1, hS.ld 0 rfl, hwg.idx, hwg.ld 0, getD_range, wrap_fit]
              exact ⟨p - 1, by omega, j + 1, by omega, rfl, by rw [hz1], hS.tail⟩
        · have hje : j = es.length := by omega
          subst hje
          have hds2 := dr_succ (lead ds i es es.length) a b
          have hdr := dr_le (lead ds i es es.length) a b
          generalize lead ds i es es.length a b = z at hds2 g19
          cases z with
          | true =>
            rw [if_pos rfl] at hds2
            repeat first | (with_reducible first | refine Wp.seq ?_ | refine Wp.reg ?_ | refine Wp.block ?_ | refine Wp.skip ?_ | refine Wp.ret ?_ | refine Wp.exit ?_ | refine Wp.label ?_ | refine Wp.condG ?_) | simp (disch := omega) only [↓RP, RQ, TS, TR, ↓reduceIte, Nat.reduceEqDiff, Nat.reduceLT, Nat.reduceLeDiff, Int.reduceLT, Int.reduceLE, Int.reduceEq, Int.reduceAdd, Int.reduceSub, Int.reduceNeg, Int.reduceToNat, Nat.reduceAdd, Nat.reduceMul, Nat.reduceSub, reduceCtorEq, RC, Int.cast_ofNat_Int, hn, g5, g8, g11, g12, g16, g17, g18, g151, g152, g153, g19]
            refine hS.eSlice [I _, I _] tP25 tF25 rfl rfl (by simp [Value.cells]) rfl rfl (by decide) (by decide) fun x H7 hS => ?_
            have hS := hS.front
            repeat first | (with_reducible first | refine Wp.seq ?_ | refine Wp.reg ?_ | refine Wp.block ?_ | refine Wp.skip ?_ | refine Wp.ret ?_ | refine Wp.exit ?_ | refine Wp.label ?_ | refine Wp.condG ?_) | simp (disch := omega) only [↓RP, RQ, TS, TR, ↓reduceIte, Nat.reduceEqDiff, Nat.reduceLT, Nat.reduceLeDiff, Int.reduceLT, Int.reduceLE, Int.reduceEq, Int.reduceAdd, Int.reduceSub, Int.reduceNeg, Int.reduceToNat, Nat.reduceAdd, Nat.reduceMul, Nat.reduceSub, reduceCtorEq, RC, Int.cast_ofNat_Int, hn, g5, g8, g11, g12, g16, g17, g18, g151, g152, g153, g19]
            refine hS.eAppend 1 rfl (hS.rd 0 rfl) tP25 (by simp only [eg_length, List.length_append, List.length_cons, List.length_nil]; omega) fun dv' H8 hS => ?_
            simp only [List.nil_append, List.cons_append, List.append_nil, List.set_cons_zero, List.set_cons_succ, setMany_cons, setMany_nil, Nat.zero_add, Nat.mul_one, Nat.add_zero] at hS
            repeat first | (with_reducible first | refine Wp.seq ?_ | refine Wp.reg ?_ | refine Wp.block ?_ | refine Wp.skip ?_ | refine Wp.ret ?_ | refine Wp.exit ?_ | refine Wp.label ?_ | refine Wp.condG ?_) | simp (disch := omega) only [↓RP, RQ, TS, TR, ↓reduceIte, Nat.reduceEqDiff, Nat.reduceLT, Nat.reduceLeDiff, Int.reduceLT, Int.reduceLE, Int.reduceEq, Int.reduceAdd, Int.reduceSub, Int.reduceNeg, Int.reduceToNat, Nat.reduceAdd, Nat.reduceMul, Nat.reduceSub, reduceCtorEq, RC, Int.cast_ofNat_Int, hn, g5, g8, g11, g12, g16, g17, g18, g151, g152, g153, g19, wrap_fit]
            refine ⟨m - 1, by omega, b + 1, dv', by omega, rfl, rfl, ?_⟩
            rw [hds2, ← List.append_assoc, eg_append _ [(a, b)]]
            exact hS.tail
          | false =>
            rw [if_neg (by decide), List.append_nil] at hds2
            repeat first | (with_reducible first | refine Wp.seq ?_ | refine Wp.reg ?_ | refine Wp.block ?_ | refine Wp.skip ?_ | refine Wp.ret ?_ | refine Wp.exit ?_ | refine Wp.label ?_ | refine Wp.condG ?_) | simp (disch := omega) only [↓RP, RQ, TS, TR, ↓reduceIte, Nat.reduceEqDiff, Nat.reduceLT, Nat.reduceLeDiff, Int.reduceLT, Int.reduceLE, Int.reduceEq, Int.reduceAdd, Int.reduceSub, Int.reduceNeg, Int.reduceToNat, Nat.reduceAdd, Nat.reduceMul, Nat.reduceSub, reduceCtorEq, RC, Int.cast_ofNat_Int, hn, g5, g8, g11, g12, g16, g17, g18, g151, g152, g153, g19, wrap_fit]
            refine ⟨m - 1, by omega, b + 1, dv, by omega, rfl, rfl, ?_⟩
            rw [hds2]
            exact hS
      · have hbe : b = M := by omega
        subst hbe
        rw [← dA_succ] at hS
        repeat first | (with_reducible first | refine Wp.seq ?_ | refine Wp.reg ?_ | refine Wp.block ?_ | refine Wp.skip ?_ | refine Wp.ret ?_ | refine Wp.exit ?_ | refine Wp.label ?_ | refine Wp.condG ?_) | simp (disch := omega) only [↓RP, RQ, TS, TR, ↓reduceIte, Nat.reduceEqDiff, Nat.reduceLT, Nat.reduceLeDiff, Int.reduceLT, Int.reduceLE, Int.reduceEq, Int.reduceAdd, Int.reduceSub, Int.reduceNeg, Int.reduceToNat, Nat.reduceAdd, Nat.reduceMul, Nat.reduceSub, reduceCtorEq, RC, Int.cast_ofNat_Int, hn, g5, g8, g11, g12, g16, g17, g18, wrap_fit]
        exact ⟨n - 1, by omega, a + 1, dv, by omega, rfl, rfl, hS⟩
    · have hae : a = M := by omega
      subst hae
      repeat first | (with_reducible first | refine Wp.seq ?_ | refine Wp.reg ?_ | refine Wp.block ?_ | refine Wp.skip ?_ | refine Wp.ret ?_ | refine Wp.exit ?_ | refine Wp.label ?_ | refine Wp.condG ?_) | simp (disch := omega) only [↓RP, RQ, TS, TR, ↓reduceIte, Nat.reduceEqDiff, Nat.reduceLT, Nat.reduceLeDiff, Int.reduceLT, Int.reduceLE, Int.reduceEq, Int.reduceAdd, Int.reduceSub, Int.reduceNeg, Int.reduceToNat, Nat.reduceAdd, Nat.reduceMul, Nat.reduceSub, reduceCtorEq, RC, Int.cast_ofNat_Int, hn, g5, g8, g11, g12, g16, g17, hS.ld 2 rfl]
      refine callFW_of (sameEdges_ok wd dv _ _ (hwd _ (hS.rd 3 rfl)) (hS.rd 0 rfl) (by rw [due_eq hQ (by omega) hval, hMM]; have := dA_le (lead ds i es es.length) a a; have hsq : a * a ≤ 7 * 7 := Nat.mul_le_mul (by omega) (by omega); omega)) ?_
      rintro r H5 ⟨rfl, rfl⟩
      rw [due_eq hQ (by omega) hval, hMM, decide_eq_true rfl]
      repeat first | (with_reducible first | refine Wp.seq ?_ | refine Wp.reg ?_ | refine Wp.block ?_ | refine Wp.skip ?_ | refine Wp.ret ?_ | refine Wp.exit ?_ | refine Wp.label ?_ | refine Wp.condG ?_) | simp (disch := omega) only [↓RP, RQ, TS, TR, ↓reduceIte, Nat.reduceEqDiff, Nat.reduceLT, Nat.reduceLeDiff, Int.reduceLT, Int.reduceLE, Int.reduceEq, Int.reduceAdd, Int.reduceSub, Int.reduceNeg, Int.reduceToNat, Nat.reduceAdd, Nat.reduceMul, Nat.reduceSub, reduceCtorEq, RC, Int.cast_ofNat_Int, hn, g5, g8, g11, g12, g16, g17]
end Go.Ds
/-
  A described graph's links, as they come in.
-/
namespace Go.Ds
open Go.Proofs Go.ChangeShapes Go.WideShapes Go.RowKit

def numN (v : Value) : Nat := match v with | .int _ n => n.toNat | _ => 0

theorem cell_at {w : World} {b off j : Nat} {v : Value} {cur : Array Value} {t : TypeId} {fr : Nat × Nat} (hb : w.heap[b]? = some (.cells cur t fr)) (h : w.cell? ((⟨b, off, none⟩ : Addr).add j) = some v) : cur[off + j]? = some v := by
  have e : (⟨b, off, none⟩ : Addr).add j = ⟨b, off + j, none⟩ := by
    unfold Addr.add
    split
    · rename_i h0; subst h0; rfl
    · rfl
  rw [e] at h
  simp only [World.cell?, hb] at h
  simpa using h

theorem u8_of {H : Type} {enc : TypeId × Value → H} {w : World} {base : Nat} {spare : Nat → Bool} {held : Bool} {n : Nat} {v : Value} {x : DataW H × List MemPlace} (h : DataW.trod enc Try.prog w base spare held n 5 [v] = some x) : v = U (numN v) ∧ numN v < 256 := by
  obtain ⟨m, hv, _, hw⟩ := DataW.trod_int Try.underlying5 h
  have hv : v = .int .u8 m := by simpa using hv
  subst hv
  have hm : 0 ≤ m ∧ m ≤ 255 := by simpa [Lit.wf, IntKind.min, IntKind.max, IntKind.signed, IntKind.bits] using hw
  simp only [numN]
  refine ⟨?_, by omega⟩
  rw [Int.toNat_of_nonneg hm.1]

theorem flat2_get {α : Type} (f g : α → Value) (xs : List α) (j : Nat) (hj : j < xs.length) (d : α) : (xs.flatMap fun x => [f x, g x])[j * 2]? = some (f (xs.getD j d)) ∧ (xs.flatMap fun x => [f x, g x])[j * 2 + 1]? = some (g (xs.getD j d)) := by
  have := Sl2.drop (f := f) (g := g) j hj d
  constructor
  · have h2 : ((xs.flatMap fun x => [f x, g x]).drop (j * 2))[0]? = some (f (xs.getD j d)) := by rw [this]; rfl
    rwa [List.getElem?_drop] at h2
  · have h2 : ((xs.flatMap fun x => [f x, g x]).drop (j * 2))[1]? = some (g (xs.getD j d)) := by rw [this]; rfl
    rwa [List.getElem?_drop] at h2

theorem ce60 : Try.prog.cellsOf 60 = 2 := by kernel_rfl
theorem ce5 : Try.prog.cellsOf 5 = 1 := by kernel_rfl
set_option maxRecDepth 100000 in
theorem links_in {H : Type} {enc : TypeId × Value → H} {W : World} {base b0 : Nat} {v0 : Value} {d0 : DataW H} {p0 : List MemPlace} (h0 : DataW.Trod enc Try.prog W base (fun _ => true) true 22 v0 d0 p0) (hval : Value.okWide Try.prog W .any b0 22 v0) :
    ∃ (ρ : Rho) (H : Heap) (v : Value) (ls : List (Nat × Nat)), HRel Try.prog ρ H W ∧ Shut ρ H ∧ V ρ v v0 ∧ Lk H v ls ∧ ∀ x ∈ ls, x.1 < 256 ∧ x.2 < 256 := by
  obtain ⟨a0, len, cap, rfl⟩ := okWide_slice Try.underlying22 hval
  obtain ⟨fuel, hf⟩ := h0
  rcases Go.Deep.open_slice_pairs Try.underlying22 Try.underlying60 ce60 rfl rfl ce5 ce5 hf with ⟨hcs, _⟩ | ⟨a, len', cap', m, n, V0, V1, D0, D1, P0, P1, hcs, _, hl, _, hmm, _, hcell⟩
  · simp [Value.cells] at hcs
    obtain ⟨rfl, rfl, rfl⟩ := hcs
    exact ⟨_, _, .slice none 0 0, [], .none W, .none, .of_flat rfl, .inl ⟨rfl, rfl⟩, by simp⟩
  · simp [Value.cells] at hcs
    obtain ⟨h1, h2, h3⟩ := hcs
    subst h1
    simp only [if_true] at hmm
    rw [← h2, ← h3] at hl
    rw [← h3] at hmm
    rw [hmm] at hcell
    clear h2 h3 hmm
    simp only [Value.okWide, Try.underlying22, Cell.okWide, Cell.ok] at hval
    obtain ⟨_, _, _, hspot, row, cells, hshape, _⟩ := hval
    obtain ⟨b, off, spot⟩ := a
    simp only at hspot hshape
    subst hspot
    unfold World.shape? at hshape
    split at hshape
    case h_2 => cases hshape
    rename_i cur t' fr hb
    have hc0 : ∀ i, i < cap → cur[off + i * 2]? = some (V0 i) := fun i hi => cell_at hb (hcell i hi).1
    have hc1 : ∀ i, i < cap → cur[off + (i * 2 + 1)]? = some (V1 i) := fun i hi => cell_at hb (hcell i hi).2.1
    have hu0 : ∀ i, i < cap → V0 i = U (numN (V0 i)) ∧ numN (V0 i) < 256 := fun i hi => u8_of (hcell i hi).2.2.1
    have hu1 : ∀ i, i < cap → V1 i = U (numN (V1 i)) ∧ numN (V1 i) < 256 := fun i hi => u8_of (hcell i hi).2.2.2
    let ls : List (Nat × Nat) := (List.range len).map fun i => (numN (V0 i), numN (V1 i))
    have hll : ls.length = len := by simp [ls]
    have hlg : ∀ i, i < len → ls.getD i (0, 0) = (numN (V0 i), numN (V1 i)) := fun i hi => by simp [ls, List.getD_eq_getElem?_getD, hi]
    have hsz : cap = 0 ∨ off + cap * 2 ≤ cur.size := by
      by_cases h0 : cap = 0
      · exact .inl h0
      · right
        have := (Array.getElem?_eq_some_iff.1 (hc1 (cap - 1) (by omega))).1
        omega
    obtain ⟨ρ, H', v, h1, h2, h3, h4⟩ := HRel.input (P := Try.prog) hb tS60 hl hsz (ls.flatMap fun e => [U e.1, U e.2]) (by rw [flat2_length, hll]) (by
      intro i hi
      rw [flat2_length, hll] at hi
      have hj : i / 2 < len := by omega
      have hg := flat2_get (fun e : Nat × Nat => U e.1) (fun e => U e.2) ls (i / 2) (by rw [hll]; exact hj) (0, 0)
      rw [hlg _ hj] at hg
      by_cases hp : i % 2 = 0
      · have e : i = i / 2 * 2 := by omega
        rw [e, hg.1, hc0 _ (by omega)]
        exact congrArg some (hu0 _ (by omega)).1
      · have e : i = i / 2 * 2 + 1 := by omega
        rw [e, hg.2, hc1 _ (by omega)]
        exact congrArg some (hu1 _ (by omega)).1) (by
      intro c hc
      obtain ⟨x, _, hx⟩ := List.mem_flatMap.1 hc
      simp only [List.mem_cons, List.not_mem_nil, or_false] at hx
      rcases hx with rfl | rfl <;> rfl)
    refine ⟨ρ, H', v, ls, h1, h2, h3, h4, ?_⟩
    intro x hx
    obtain ⟨i, hi, rfl⟩ := List.mem_map.1 hx
    have := List.mem_range.1 hi
    exact ⟨(hu0 i (by omega)).2, (hu1 i (by omega)).2⟩

theorem u8_in {w : Int} (h : (Lit.int .u8 w).wf = true) : ∃ n : Nat, n < 256 ∧ w = n := by
  have hm : 0 ≤ w ∧ w ≤ 255 := by simpa [Lit.wf, IntKind.min, IntKind.max, IntKind.signed, IntKind.bits] using h
  exact ⟨w.toNat, by omega, by omega⟩
end Go.Ds
