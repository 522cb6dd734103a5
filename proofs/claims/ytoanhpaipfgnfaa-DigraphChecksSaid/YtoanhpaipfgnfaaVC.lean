/-
  Contracts: distances.
-/
import Derived.Test.YtoanhpaipfgnfaaVB
set_option linter.unusedVariables false
set_option linter.unusedSimpArgs false
namespace Go.Ds
open Go.Proofs Go.Plain
variable {H : Heap}

theorem St.perm {P : Program} {H0 : Base} {os os' : List Ob} (hS : St P H0 H os) (h : os.Perm os') : St P H0 H os' where
  len := hS.len
  old := hS.old
  own o ho := hS.own o (h.symm.subset ho)
  new o ho := hS.new o (h.symm.subset ho)
  sep := (h.pairwise_iff (fun {x y} hxy B h1 h2 => hxy B h2 h1)).1 hS.sep

theorem St.front {P : Program} {H0 : Base} {os : List Ob} {o : Ob} (hS : St P H0 H (os ++ [o])) : St P H0 H (o :: os) := hS.perm (List.perm_append_singleton o os)

theorem St.tail {P : Program} {H0 : Base} {os : List Ob} {o : Ob} (hS : St P H0 H (o :: os)) : St P H0 H os := hS.sub (List.sublist_cons_self o os)

def upd {α : Type} (f : Nat → α) (j : Nat) (x : α) : Nat → α := fun n => if n = j then x else f n

theorem map_upd {α : Type} (f : Nat → α) (j : Nat) (x : α) (N : Nat) : ((List.range N).map f).set j x = (List.range N).map (upd f j x) := by
  apply List.ext_getElem
  · simp
  · intro i h1 h2
    rw [List.getElem_set]
    simp only [List.getElem_map, List.getElem_range, upd]
    by_cases e : j = i
    · simp [e]
    · rw [if_neg e, if_neg (fun h => e h.symm)]

abbrev nts (l : List Nat) : List Value := l.map fun n : Nat => I n
/-- Rows of ours, one for each number. -/
def inner (N : Nat) (ws : Nat → Value) (nx : Nat → List Nat) : List Ob := (List.range N).map fun n => ⟨ws n, 1, nts (nx n)⟩
theorem inner_get (N : Nat) (ws : Nat → Value) (nx : Nat → List Nat) (j : Nat) (hj : j < N) : (inner N ws nx)[j]? = some ⟨ws j, 0 + 1, nts (nx j)⟩ := by simp [inner, hj]
theorem inner_set (N : Nat) (ws : Nat → Value) (nx : Nat → List Nat) (j : Nat) (w : Value) (l : List Nat) : (inner N ws nx).set j ⟨w, 1, nts l⟩ = inner N (upd ws j w) (upd nx j l) := by
  unfold inner
  rw [map_upd]
  congr 1
  funext n
  simp only [upd]
  split <;> rfl

theorem getD_range (N j : Nat) (h : j < N) : (List.range N).getD j 0 = j := by simp [List.getD_eq_getElem?_getD, h]

theorem St.nils {P : Program} {H0 : Base} (f : Nat → Value) (g : Nat → List Nat) (hf : ∀ n, f n = .slice none 0 0) (hg : ∀ n, g n = []) {os : List Ob} (hS : St P H0 H os) : ∀ N, St P H0 H (os ++ inner N f g) := by
  intro N
  induction N with
  | zero => simpa [inner] using hS
  | succ N ih =>
    have := ih.nil 0
    unfold inner at this ⊢
    rw [List.range_succ, List.map_append, ← List.append_assoc]
    simpa [hf, hg] using this

/-- The targets of the edges of a part of a list that leave a node. -/
def nxs (es : List (Nat × Nat)) (first i n : Nat) : List Nat := (((es.take i).drop first).filter fun e => e.1 == n).map (·.2)

theorem nxs_succ (es : List (Nat × Nat)) (first i : Nat) (hi : i < es.length) (hf : first ≤ i) : nxs es first (i + 1) = upd (nxs es first i) (es.getD i (0, 0)).1 (nxs es first i (es.getD i (0, 0)).1 ++ [(es.getD i (0, 0)).2]) := by
  funext n
  have e : (es.take (i + 1)).drop first = (es.take i).drop first ++ [es.getD i (0, 0)] := by
    rw [take_succ_getD es i (0, 0) hi, List.drop_append_of_le_length (by simp; omega)]
  unfold nxs upd
  rw [e, List.filter_append, List.map_append]
  by_cases h : n = (es.getD i (0, 0)).1
  · subst h
    simp
  · have h2 : ((es.getD i (0, 0)).1 == n) = false := by simp; exact fun e => h e.symm
    rw [if_neg h]
    simp only [List.filter_cons, h2]
    simp

theorem distances_ok (N : Nat) (v : Value) (es : List (Nat × Nat)) (hv : Eg H v es) (hN : N ≤ 200) (he : es.length ≤ 1000) (hval : ∀ e ∈ es, e.1 < N ∧ e.2 < N) (s first : Nat) (hs : s < N) (hf : first ≤ es.length) :
    Fn Try.prog 42 [.agg #[I N, v], I s, I first] H fun r H' => ∃ d, IsD (es.drop first) N s d ∧ (∀ k, k < N → d.getD k 0 ≤ N) ∧ St Try.prog H H' [⟨r, 1, d.map (.int .i64)⟩] := by
  refine Fn.of_wp (fn := Try.f42) rfl rfl (by kernel_rfl) fun l hl => ?_
  have hn : l.length = 89 := by rw [hl]; rfl
  have g0 : get l 0 = .agg #[I N, v] := by rw [hl]; rfl
  have g1 : get l 1 = I s := by rw [hl]; rfl
  have g2 : get l 2 = I first := by rw [hl]; rfl
  clear hl
  repeat first | (with_reducible first | refine Wp.seq ?_ | refine Wp.reg ?_ | refine Wp.block ?_ | refine Wp.skip ?_ | refine Wp.ret ?_ | refine Wp.exit ?_ | refine Wp.label ?_ | refine Wp.condG ?_) | simp (disch := omega) only [↓RP, RQ, TS, TR, ↓reduceIte, Nat.reduceEqDiff, Nat.reduceLT, Nat.reduceLeDiff, Int.reduceLT, Int.reduceLE, Int.reduceEq, Int.reduceAdd, Int.reduceSub, Int.reduceNeg, Int.reduceToNat, Nat.reduceAdd, Nat.reduceMul, Nat.reduceSub, reduceCtorEq, RC, Int.cast_ofNat_Int, hn, g0, g1, g2]
  refine (St.refl _ H).eNew 2 [I N, v] rfl rfl (by simp [hv.one]; rfl) tS27 fun A H1 hS => ?_
  repeat first | (with_reducible first | refine Wp.seq ?_ | refine Wp.reg ?_ | refine Wp.block ?_ | refine Wp.skip ?_ | refine Wp.ret ?_ | refine Wp.exit ?_ | refine Wp.label ?_ | refine Wp.condG ?_) | simp (disch := omega) only [↓RP, RQ, TS, TR, ↓reduceIte, Nat.reduceEqDiff, Nat.reduceLT, Nat.reduceLeDiff, Int.reduceLT, Int.reduceLE, Int.reduceEq, Int.reduceAdd, Int.reduceSub, Int.reduceNeg, Int.reduceToNat, Nat.reduceAdd, Nat.reduceMul, Nat.reduceSub, reduceCtorEq, RC, Int.cast_ofNat_Int, hn, g0, g1, g2]
  refine hS.eSlice [I (-1)] tP29 tF29 rfl rfl (by simp [Value.cells]) rfl rfl (by decide) (by decide) fun x H2 hS => ?_
  repeat first | (with_reducible first | refine Wp.seq ?_ | refine Wp.reg ?_ | refine Wp.block ?_ | refine Wp.skip ?_ | refine Wp.ret ?_ | refine Wp.exit ?_ | refine Wp.label ?_ | refine Wp.condG ?_) | simp (disch := omega) only [↓RP, RQ, TS, TR, ↓reduceIte, Nat.reduceEqDiff, Nat.reduceLT, Nat.reduceLeDiff, Int.reduceLT, Int.reduceLE, Int.reduceEq, Int.reduceAdd, Int.reduceSub, Int.reduceNeg, Int.reduceToNat, Nat.reduceAdd, Nat.reduceMul, Nat.reduceSub, reduceCtorEq, RC, Int.cast_ofNat_Int, hn, g0, g1, g2, hS.ld 0 rfl]
  refine callFW_of (repeat_ok N (by omega) hN x (hS.rd 1 rfl)) ?_
  rintro w H3 hS3
  have hS := hS.trans hS3
  simp only [List.nil_append, List.cons_append, List.append_nil, List.set_cons_zero, List.set_cons_succ, setMany_cons, setMany_nil, Nat.zero_add, Nat.mul_one, Nat.add_zero] at hS
  repeat first | (with_reducible first | refine Wp.seq ?_ | refine Wp.reg ?_ | refine Wp.block ?_ | refine Wp.skip ?_ | refine Wp.ret ?_ | refine Wp.exit ?_ | refine Wp.label ?_ | refine Wp.condG ?_) | simp (disch := omega) only [↓RP, RQ, TS, TR, ↓reduceIte, Nat.reduceEqDiff, Nat.reduceLT, Nat.reduceLeDiff, Int.reduceLT, Int.reduceLE, Int.reduceEq, Int.reduceAdd, Int.reduceSub, Int.reduceNeg, Int.reduceToNat, Nat.reduceAdd, Nat.reduceMul, Nat.reduceSub, reduceCtorEq, RC, Int.cast_ofNat_Int, hn, g0, g1, g2, hS.ld 0 rfl]
  refine hS.eMake1 N tM33 (by omega) fun w8 H4 hS4 => ?_
  have hrep : ∀ (N : Nat) (z : Value), List.replicate N z = (List.range N).map (fun _ => z) := fun N z => by
    rw [List.map_const', List.length_range]
  have hS := hS4.nils (fun _ => .slice none 0 0) (fun _ => []) (fun _ => rfl) (fun _ => rfl) N
  rw [hrep N (.slice none 0 0)] at hS
  simp only [List.nil_append, List.cons_append, List.append_nil, List.set_cons_zero, List.set_cons_succ, setMany_cons, setMany_nil, Nat.zero_add, Nat.mul_one, Nat.add_zero] at hS
  repeat first | (with_reducible first | refine Wp.seq ?_ | refine Wp.reg ?_ | refine Wp.block ?_ | refine Wp.skip ?_ | refine Wp.ret ?_ | refine Wp.exit ?_ | refine Wp.label ?_ | refine Wp.condG ?_) | simp (disch := omega) only [↓RP, RQ, TS, TR, ↓reduceIte, Nat.reduceEqDiff, Nat.reduceLT, Nat.reduceLeDiff, Int.reduceLT, Int.reduceLE, Int.reduceEq, Int.reduceAdd, Int.reduceSub, Int.reduceNeg, Int.reduceToNat, Nat.reduceAdd, Nat.reduceMul, Nat.reduceSub, reduceCtorEq, RC, Int.cast_ofNat_Int, hn, g0, g1, g2]
  have hS := hS.sub (os' := ⟨ptr A 0 2, 0, [I N, v]⟩ :: ⟨w, 1, List.replicate N (I (-1))⟩ :: ⟨w8, 1, (List.range N).map fun _ => .slice none 0 0⟩ :: inner N (fun _ => .slice none 0 0) (nxs es first first)) (by
    have e : nxs es first first = fun _ => [] := by funext n; simp [nxs]
    rw [e]
    exact List.Sublist.cons_cons _ (List.Sublist.cons _ (List.Sublist.refl _)))
  refine Wp.loopN (fun n l H' => l.length = 89 ∧ get l 1 = I s ∧ get l 3 = ptr A 0 2 ∧ get l 7 = w ∧ get l 8 = w8 ∧ ∃ (i : Nat) (ws : Nat → Value), n + i = es.length ∧ first ≤ i ∧ get l 9 = I i ∧
    St Try.prog H H' (⟨ptr A 0 2, 0, [I N, v]⟩ :: ⟨w, 1, List.replicate N (I (-1))⟩ :: ⟨w8, 1, (List.range N).map ws⟩ :: inner N ws (nxs es first i))) (es.length - first) ?_ ?_
  · repeat first | (with_reducible first | refine Wp.seq ?_ | refine Wp.reg ?_ | refine Wp.block ?_ | refine Wp.skip ?_ | refine Wp.ret ?_ | refine Wp.exit ?_ | refine Wp.label ?_ | refine Wp.condG ?_) | simp (disch := omega) only [↓RP, RQ, TS, TR, ↓reduceIte, Nat.reduceEqDiff, Nat.reduceLT, Nat.reduceLeDiff, Int.reduceLT, Int.reduceLE, Int.reduceEq, Int.reduceAdd, Int.reduceSub, Int.reduceNeg, Int.reduceToNat, Nat.reduceAdd, Nat.reduceMul, Nat.reduceSub, reduceCtorEq, RC, Int.cast_ofNat_Int, hn, g0, g1, g2]
    exact ⟨first, _, by omega, Nat.le_refl _, rfl, hS⟩
  · clear hS4 hS3 hS hn g0 g1 g2 hrep
    rintro n l H' ⟨hn, g1, g3, g7, g8, i, ws, hi, hfi, g9, hS⟩
    have hv1 : Sl2 H' v _ _ es := hS.base hv
    have hrl : (List.range N).length = N := List.length_range
    repeat first | (with_reducible first | refine Wp.seq ?_ | refine Wp.reg ?_ | refine Wp.block ?_ | refine Wp.skip ?_ | refine Wp.ret ?_ | refine Wp.exit ?_ | refine Wp.label ?_ | refine Wp.condG ?_) | simp (disch := omega) only [↓RP, RQ, TS, TR, ↓reduceIte, Nat.reduceEqDiff, Nat.reduceLT, Nat.reduceLeDiff, Int.reduceLT, Int.reduceLE, Int.reduceEq, Int.reduceAdd, Int.reduceSub, Int.reduceNeg, Int.reduceToNat, Nat.reduceAdd, Nat.reduceMul, Nat.reduceSub, reduceCtorEq, RC, Int.cast_ofNat_Int, hn, g1, g3, g7, g8, g9, hS.ld 0 rfl, hv1.len]
    refine condW_split (fun h => ?_) (fun h => ?_)
    · have hm := hval _ (getD_mem (0, 0) (show i < es.length by omega))
      repeat first | (with_reducible first | refine Wp.seq ?_ | refine Wp.reg ?_ | refine Wp.block ?_ | refine Wp.skip ?_ | refine Wp.ret ?_ | refine Wp.exit ?_ | refine Wp.label ?_ | refine Wp.condG ?_) | simp (disch := omega) only [↓RP, RQ, TS, TR, ↓reduceIte, Nat.reduceEqDiff, Nat.reduceLT, Nat.reduceLeDiff, Int.reduceLT, Int.reduceLE, Int.reduceEq, Int.reduceAdd, Int.reduceSub, Int.reduceNeg, Int.reduceToNat, Nat.reduceAdd, Nat.reduceMul, Nat.reduceSub, reduceCtorEq, RC, Int.cast_ofNat_Int, hn, g1, g3, g7, g8, g9, hS.ld 0 rfl, hv1.idx, hv1.ldA (0, 0)]
      refine hS.eNew 2 [I 0, I 0] rfl rfl rfl tS48 fun C H5 hS => ?_
      have hS := hS.front
      repeat first | (with_reducible first | refine Wp.seq ?_ | refine Wp.reg ?_ | refine Wp.block ?_ | refine Wp.skip ?_ | refine Wp.ret ?_ | refine Wp.exit ?_ | refine Wp.label ?_ | refine Wp.condG ?_) | simp (disch := omega) only [↓RP, RQ, TS, TR, ↓reduceIte, Nat.reduceEqDiff, Nat.reduceLT, Nat.reduceLeDiff, Int.reduceLT, Int.reduceLE, Int.reduceEq, Int.reduceAdd, Int.reduceSub, Int.reduceNeg, Int.reduceToNat, Nat.reduceAdd, Nat.reduceMul, Nat.reduceSub, reduceCtorEq, RC, Int.cast_ofNat_Int, hn, g1, g3, g7, g8, g9]
      refine hS.eStore 0 rfl [_, _] rfl rfl tS48 (by simp) fun H6 hS => ?_
      simp only [List.nil_append, List.cons_append, List.append_nil, List.set_cons_zero, List.set_cons_succ, setMany_cons, setMany_nil, Nat.zero_add, Nat.mul_one, Nat.add_zero] at hS
      have ho : Sl1 H6 w8 ws (List.range N) := hS.rd 3 rfl
      repeat first | (with_reducible first | refine Wp.seq ?_ | refine Wp.reg ?_ | refine Wp.block ?_ | refine Wp.skip ?_ | refine Wp.ret ?_ | refine Wp.exit ?_ | refine Wp.label ?_ | refine Wp.condG ?_) | simp (disch := omega) only [↓RP, RQ, TS, TR, ↓reduceIte, Nat.reduceEqDiff, Nat.reduceLT, Nat.reduceLeDiff, Int.reduceLT, Int.reduceLE, Int.reduceEq, Int.reduceAdd, Int.reduceSub, Int.reduceNeg, Int.reduceToNat, Nat.reduceAdd, Nat.reduceMul, Nat.reduceSub, reduceCtorEq, RC, Int.cast_ofNat_Int, hn, g1, g3, g7, g8, g9]
      refine Wp.drwT hmix [(2, 11), (2, 12), (5, 11), (7, 11)] (by kernel_rfl) (by kernel_rfl) ?_
      repeat first | (with_reducible first | refine Wp.seq ?_ | refine Wp.reg ?_ | refine Wp.block ?_ | refine Wp.skip ?_ | refine Wp.ret ?_ | refine Wp.exit ?_ | refine Wp.label ?_ | refine Wp.condG ?_) | simp (disch := omega) only [↓RP, RQ, TS, TR, ↓reduceIte, Nat.reduceEqDiff, Nat.reduceLT, Nat.reduceLeDiff, Int.reduceLT, Int.reduceLE, Int.reduceEq, Int.reduceAdd, Int.reduceSub, Int.reduceNeg, Int.reduceToNat, Nat.reduceAdd, Nat.reduceMul, Nat.reduceSub, reduceCtorEq, RC, Int.cast_ofNat_Int, hn, g1, g3, g7, g8, g9, hS.ld 0 rfl, ho.idx, ho.ld 0, getD_range]
      refine hS.eSlice [I _] tP29 tF29 rfl rfl (by simp [Value.cells]) rfl rfl (by decide) (by decide) fun x H7 hS7 => ?_
      have hS7 := hS7.front
      have ho7 : Sl1 H7 w8 ws (List.range N) := hS7.rd 4 rfl
      repeat first | (with_reducible first | refine Wp.seq ?_ | refine Wp.reg ?_ | refine Wp.block ?_ | refine Wp.skip ?_ | refine Wp.ret ?_ | refine Wp.exit ?_ | refine Wp.label ?_ | refine Wp.condG ?_) | simp (disch := omega) only [↓RP, RQ, TS, TR, ↓reduceIte, Nat.reduceEqDiff, Nat.reduceLT, Nat.reduceLeDiff, Int.reduceLT, Int.reduceLE, Int.reduceEq, Int.reduceAdd, Int.reduceSub, Int.reduceNeg, Int.reduceToNat, Nat.reduceAdd, Nat.reduceMul, Nat.reduceSub, reduceCtorEq, RC, Int.cast_ofNat_Int, hn, g1, g3, g7, g8, g9]
      refine hS7.eAppend ((es.getD i (0, 0)).1 + 5) (inner_get N ws _ _ hm.1) (hS7.rd 0 rfl) tP29 ?_ fun w' H8 hS8 => ?_
      · have : (nxs es first i (es.getD i (0, 0)).1).length ≤ es.length := by
          unfold nxs
          rw [List.length_map]
          refine Nat.le_trans (List.length_filter_le _ _) ?_
          simp
          omega
        simp only [nts, List.length_map, List.length_cons, List.length_nil]
        omega
      simp only [List.nil_append, List.cons_append, List.append_nil, List.set_cons_zero, List.set_cons_succ, setMany_cons, setMany_nil, Nat.zero_add, Nat.mul_one, Nat.add_zero] at hS8
      rw [show nts (nxs es first i (es.getD i (0, 0)).1) ++ [I (es.getD i (0, 0)).2] = nts (nxs es first i (es.getD i (0, 0)).1 ++ [(es.getD i (0, 0)).2]) from by simp [nts], inner_set, ← nxs_succ es first i (by omega) hfi] at hS8
      have ho8 : Sl1 H8 w8 ws (List.range N) := hS8.rd 4 rfl
      have hw' := (hS8.rd ((es.getD i (0, 0)).1 + 5) (inner_get N _ _ _ hm.1)).cells
      rw [show upd ws (es.getD i (0, 0)).1 w' (es.getD i (0, 0)).1 = w' from if_pos rfl] at hw'
      repeat first | (with_reducible first | refine Wp.seq ?_ | refine Wp.reg ?_ | refine Wp.block ?_ | refine Wp.skip ?_ | refine Wp.ret ?_ | refine Wp.exit ?_ | refine Wp.label ?_ | refine Wp.condG ?_) | simp (disch := omega) only [↓RP, RQ, TS, TR, ↓reduceIte, Nat.reduceEqDiff, Nat.reduceLT, Nat.reduceLeDiff, Int.reduceLT, Int.reduceLE, Int.reduceEq, Int.reduceAdd, Int.reduceSub, Int.reduceNeg, Int.reduceToNat, Nat.reduceAdd, Nat.reduceMul, Nat.reduceSub, reduceCtorEq, RC, Int.cast_ofNat_Int, hn, g1, g3, g7, g8, g9, ho8.idx]
      refine hS8.eStoreE 4 rfl [w'] (by rw [hw'.1]) (by simp [hw'.2.1]) tS29 (by simp) (by simp only [List.length_map, List.length_cons, List.length_nil]; omega) fun H9 hS9 => ?_
      simp only [List.nil_append, List.cons_append, List.append_nil, List.set_cons_zero, List.set_cons_succ, setMany_cons, setMany_nil, Nat.zero_add, Nat.mul_one, Nat.add_zero] at hS9
      rw [map_upd] at hS9
      repeat first | (with_reducible first | refine Wp.seq ?_ | refine Wp.reg ?_ | refine Wp.block ?_ | refine Wp.skip ?_ | refine Wp.ret ?_ | refine Wp.exit ?_ | refine Wp.label ?_ | refine Wp.condG ?_) | simp (disch := omega) only [↓RP, RQ, TS, TR, ↓reduceIte, Nat.reduceEqDiff, Nat.reduceLT, Nat.reduceLeDiff, Int.reduceLT, Int.reduceLE, Int.reduceEq, Int.reduceAdd, Int.reduceSub, Int.reduceNeg, Int.reduceToNat, Nat.reduceAdd, Nat.reduceMul, Nat.reduceSub, reduceCtorEq, RC, Int.cast_ofNat_Int, hn, g1, g3, g7, g8, g9, hS7.ld 1 rfl, hS8.ld 1 rfl, ho7.ld 0, getD_range, wrap_fit]
      exact ⟨n - 1, by omega, i + 1, _, by omega, by omega, rfl, hS9.tail.tail⟩
    · have hie : i = es.length := by omega
      subst hie
      rw [show List.replicate N (I (-1)) = (List.replicate N (-1 : Int)).map (.int .i64) from by simp] at hS
      have hd : Sl1 H' w (.int .i64) (List.replicate N (-1 : Int)) := hS.rd 1 rfl
      have hrl2 : (List.replicate N (-1 : Int)).length = N := List.length_replicate
      repeat first | (with_reducible first | refine Wp.seq ?_ | refine Wp.reg ?_ | refine Wp.block ?_ | refine Wp.skip ?_ | refine Wp.ret ?_ | refine Wp.exit ?_ | refine Wp.label ?_ | refine Wp.condG ?_) | simp (disch := omega) only [↓RP, RQ, TS, TR, ↓reduceIte, Nat.reduceEqDiff, Nat.reduceLT, Nat.reduceLeDiff, Int.reduceLT, Int.reduceLE, Int.reduceEq, Int.reduceAdd, Int.reduceSub, Int.reduceNeg, Int.reduceToNat, Nat.reduceAdd, Nat.reduceMul, Nat.reduceSub, reduceCtorEq, RC, Int.cast_ofNat_Int, hn, g1, g3, g7, g8, g9, hd.idx]
      refine hS.eStoreE 1 rfl [_] rfl rfl tS3 (by simp) (by simp only [List.length_map, List.length_cons, List.length_nil]; omega) fun H5 hS => ?_
      simp only [List.nil_append, List.cons_append, List.append_nil, List.set_cons_zero, List.set_cons_succ, setMany_cons, setMany_nil, Nat.zero_add, Nat.mul_one, Nat.add_zero] at hS
      rw [← List.map_set] at hS
      repeat first | (with_reducible first | refine Wp.seq ?_ | refine Wp.reg ?_ | refine Wp.block ?_ | refine Wp.skip ?_ | refine Wp.ret ?_ | refine Wp.exit ?_ | refine Wp.label ?_ | refine Wp.condG ?_) | simp (disch := omega) only [↓RP, RQ, TS, TR, ↓reduceIte, Nat.reduceEqDiff, Nat.reduceLT, Nat.reduceLeDiff, Int.reduceLT, Int.reduceLE, Int.reduceEq, Int.reduceAdd, Int.reduceSub, Int.reduceNeg, Int.reduceToNat, Nat.reduceAdd, Nat.reduceMul, Nat.reduceSub, reduceCtorEq, RC, Int.cast_ofNat_Int, hn, g1, g3, g7, g8, g9]
      refine hS.eSlice [I s] tP29 tF29 rfl rfl (by simp [Value.cells]) rfl rfl (by decide) (by decide) fun qv H6 hS => ?_
      have hS := hS.front
      repeat first | (with_reducible first | refine Wp.seq ?_ | refine Wp.reg ?_ | refine Wp.block ?_ | refine Wp.skip ?_ | refine Wp.ret ?_ | refine Wp.exit ?_ | refine Wp.label ?_ | refine Wp.condG ?_) | simp (disch := omega) only [↓RP, RQ, TS, TR, ↓reduceIte, Nat.reduceEqDiff, Nat.reduceLT, Nat.reduceLeDiff, Int.reduceLT, Int.reduceLE, Int.reduceEq, Int.reduceAdd, Int.reduceSub, Int.reduceNeg, Int.reduceToNat, Nat.reduceAdd, Nat.reduceMul, Nat.reduceSub, reduceCtorEq, RC, Int.cast_ofNat_Int, hn, g1, g3, g7, g8, g9]
      have hval' : ∀ e ∈ es.drop first, e.1 < N ∧ e.2 < N := fun e he => hval e (List.mem_of_mem_drop he)
      have hnx : ∀ x j, (x, j) ∈ es.drop first → j ∈ nxs es first es.length x ∧ j < N := fun x j hj => by
        refine ⟨?_, (hval' _ hj).2⟩
        unfold nxs
        rw [List.take_length, List.mem_map]
        exact ⟨(x, j), List.mem_filter.2 ⟨hj, by simp⟩, rfl⟩
      have hnx2 : ∀ x j, j ∈ nxs es first es.length x → (x, j) ∈ es.drop first := fun x j hj => by
        unfold nxs at hj
        rw [List.take_length, List.mem_map] at hj
        obtain ⟨⟨e1, e2⟩, h3, rfl⟩ := hj
        obtain ⟨h4, h5⟩ := List.mem_filter.1 h3
        have : e1 = x := by simpa using h5
        subst this
        exact h4
      have hnl : ∀ x, (nxs es first es.length x).length ≤ 1000 := fun x => by
        unfold nxs
        rw [List.length_map]
        refine Nat.le_trans (List.length_filter_le _ _) ?_
        simp
        omega
      generalize nxs es first es.length = nx at hS hnx hnx2 hnl
      refine Wp.loopN (fun n l H' => l.length = 89 ∧ get l 7 = w ∧ get l 8 = w8 ∧ ∃ (d : List Int) (q : List Nat) (qv : Value), get l 11 = qv ∧ n = q.length + cnt d ∧ n ≤ N ∧ Bf (es.drop first) N s d q ∧
        St Try.prog H H' (⟨qv, 1, nts q⟩ :: ⟨ptr A 0 2, 0, [I N, v]⟩ :: ⟨w, 1, d.map (.int .i64)⟩ :: ⟨w8, 1, (List.range N).map ws⟩ :: inner N ws nx)) N ?_ ?_
      · repeat first | (with_reducible first | refine Wp.seq ?_ | refine Wp.reg ?_ | refine Wp.block ?_ | refine Wp.skip ?_ | refine Wp.ret ?_ | refine Wp.exit ?_ | refine Wp.label ?_ | refine Wp.condG ?_) | simp (disch := omega) only [↓RP, RQ, TS, TR, ↓reduceIte, Nat.reduceEqDiff, Nat.reduceLT, Nat.reduceLeDiff, Int.reduceLT, Int.reduceLE, Int.reduceEq, Int.reduceAdd, Int.reduceSub, Int.reduceNeg, Int.reduceToNat, Nat.reduceAdd, Nat.reduceMul, Nat.reduceSub, reduceCtorEq, RC, Int.cast_ofNat_Int, hn, g1, g3, g7, g8, g9]
        have hb := Bf.first (es := es.drop first) hs
        have hc : cnt ((List.replicate N (-1 : Int)).set s 0) + 1 = N := by
          rw [cnt_set _ _ _ (by simpa using hs) (by simp [List.getD_eq_getElem?_getD, hs]) (Int.le_refl _)]
          simp [cnt, List.countP_replicate]
        exact ⟨_, [s], _, rfl, by simp; omega, Nat.le_refl _, hb, hS⟩
      · clear hS hn g1 g3 g7 g8 g9 hd hv1 hi h hfi
        rintro n l H' ⟨hn, g7, g8, d, q, qv, g11, hnq, hnN, hB, hS⟩
        have hq : Sl1 H' qv (fun n : Nat => I n) q := hS.rd 0 rfl
        repeat first | (with_reducible first | refine Wp.seq ?_ | refine Wp.reg ?_ | refine Wp.block ?_ | refine Wp.skip ?_ | refine Wp.ret ?_ | refine Wp.exit ?_ | refine Wp.label ?_ | refine Wp.condG ?_) | simp (disch := omega) only [↓RP, RQ, TS, TR, ↓reduceIte, Nat.reduceEqDiff, Nat.reduceLT, Nat.reduceLeDiff, Int.reduceLT, Int.reduceLE, Int.reduceEq, Int.reduceAdd, Int.reduceSub, Int.reduceNeg, Int.reduceToNat, Nat.reduceAdd, Nat.reduceMul, Nat.reduceSub, reduceCtorEq, RC, Int.cast_ofNat_Int, hn, g7, g8, g11, hq.len]
        refine condW_split (fun h => ?_) (fun h => ?_)
        · have hq0 : 0 < q.length := by omega
          have hqe : q = q.getD 0 0 :: q.drop 1 := by
            cases q with
            | nil => simp at hq0
            | cons a q => rfl
          have hlen : (nts q).length = q.length * (0 + 1) := by simp [nts]
          have ho : Sl1 H' w8 ws (List.range N) := hS.rd 3 rfl
          have hB0 := hB
          rw [hqe] at hB0
          have hG := hB0.pop
          have hx := hG.xN
          have hS2 := hS.suffix 0 rfl hlen 1 hq0 hq0
          simp only [List.nil_append, List.cons_append, List.append_nil, List.set_cons_zero, List.set_cons_succ, setMany_cons, setMany_nil, Nat.zero_add, Nat.mul_one, Nat.add_zero] at hS2
          rw [show (nts q).drop 1 = nts (q.drop 1) from (List.map_drop ..).symm] at hS2
          have hin : Sl1 H' (ws (q.getD 0 0)) (fun n : Nat => I n) (nx (q.getD 0 0)) := hS.rd (q.getD 0 0 + 4) (inner_get N ws nx _ hx.1)
          repeat first | (with_reducible first | refine Wp.seq ?_ | refine Wp.reg ?_ | refine Wp.block ?_ | refine Wp.skip ?_ | refine Wp.ret ?_ | refine Wp.exit ?_ | refine Wp.label ?_ | refine Wp.condG ?_) | simp (disch := omega) only [↓RP, RQ, TS, TR, ↓reduceIte, Nat.reduceEqDiff, Nat.reduceLT, Nat.reduceLeDiff, Int.reduceLT, Int.reduceLE, Int.reduceEq, Int.reduceAdd, Int.reduceSub, Int.reduceNeg, Int.reduceToNat, Nat.reduceAdd, Nat.reduceMul, Nat.reduceSub, reduceCtorEq, RC, Int.cast_ofNat_Int, hn, g7, g8, g11, hq.idx, hq.ld 0, (hS.rd 0 rfl).sliceL hlen, ho.idx, ho.ld 0, getD_range, hin.len]
          generalize hxx : q.getD 0 0 = x at *
          refine Wp.loopN (fun n2 l H' => l.length = 89 ∧ get l 7 = w ∧ get l 8 = w8 ∧ get l 12 = I x ∧ get l 64 = ws x ∧ get l 65 = I (nx x).length ∧ ∃ (j : Nat) (d : List Int) (q : List Nat) (qv : Value), n2 + j = (nx x).length ∧ get l 66 = I j ∧ get l 11 = qv ∧
            q.length + cnt d + 1 = n ∧ Bg (es.drop first) N s x ((nx x).take j) d q ∧
            St Try.prog H H' (⟨qv, 1, nts q⟩ :: ⟨ptr A 0 2, 0, [I N, v]⟩ :: ⟨w, 1, d.map (.int .i64)⟩ :: ⟨w8, 1, (List.range N).map ws⟩ :: inner N ws nx)) (nx x).length ?_ ?_
          · repeat first | (with_reducible first | refine Wp.seq ?_ | refine Wp.reg ?_ | refine Wp.block ?_ | refine Wp.skip ?_ | refine Wp.ret ?_ | refine Wp.exit ?_ | refine Wp.label ?_ | refine Wp.condG ?_) | simp (disch := omega) only [↓RP, RQ, TS, TR, ↓reduceIte, Nat.reduceEqDiff, Nat.reduceLT, Nat.reduceLeDiff, Int.reduceLT, Int.reduceLE, Int.reduceEq, Int.reduceAdd, Int.reduceSub, Int.reduceNeg, Int.reduceToNat, Nat.reduceAdd, Nat.reduceMul, Nat.reduceSub, reduceCtorEq, RC, Int.cast_ofNat_Int, hn, g7, g8, g11]
            exact ⟨0, d, _, _, rfl, rfl, rfl, by simp; omega, by simpa using hG, hS2⟩
          clear hS hS2 hn g7 g8 g11 hG hB0 hB hq ho hin hlen hqe hxx hnq
          rintro n2 l H' ⟨hn, g7, g8, g12, g64, g65, j, d, q, qv, hj, g66, g11, hcn, hG, hS⟩
          repeat first | (with_reducible first | refine Wp.seq ?_ | refine Wp.reg ?_ | refine Wp.block ?_ | refine Wp.skip ?_ | refine Wp.ret ?_ | refine Wp.exit ?_ | refine Wp.label ?_ | refine Wp.condG ?_) | simp (disch := omega) only [↓RP, RQ, TS, TR, ↓reduceIte, Nat.reduceEqDiff, Nat.reduceLT, Nat.reduceLeDiff, Int.reduceLT, Int.reduceLE, Int.reduceEq, Int.reduceAdd, Int.reduceSub, Int.reduceNeg, Int.reduceToNat, Nat.reduceAdd, Nat.reduceMul, Nat.reduceSub, reduceCtorEq, RC, Int.cast_ofNat_Int, hn, g7, g8, g11, g12, g64, g65, g66]
          refine condW_split (fun h => ?_) (fun h => ?_)
          · have hin : Sl1 H' (ws x) (fun n : Nat => I n) (nx x) := hS.rd (x + 4) (inner_get N ws nx _ hx.1)
            have hd : Sl1 H' w (.int .i64) d := hS.rd 2 rfl
            have hdl := hG.len
            have hjl : j < (nx x).length := by omega
            have hnlx := hnl x
            have hmem := hnx2 x _ (getD_mem 0 hjl)
            have htN := (hval' _ hmem).2
            have htk : (nx x).take (j + 1) = (nx x).take j ++ [(nx x).getD j 0] := take_succ_getD _ _ _ hjl
            simp only at htN
            repeat first | (with_reducible first | refine Wp.seq ?_ | refine Wp.reg ?_ | refine Wp.block ?_ | refine Wp.skip ?_ | refine Wp.ret ?_ | refine Wp.exit ?_ | refine Wp.label ?_ | refine Wp.condG ?_) | simp (disch := omega) only [↓RP, RQ, TS, TR, ↓reduceIte, Nat.reduceEqDiff, Nat.reduceLT, Nat.reduceLeDiff, Int.reduceLT, Int.reduceLE, Int.reduceEq, Int.reduceAdd, Int.reduceSub, Int.reduceNeg, Int.reduceToNat, Nat.reduceAdd, Nat.reduceMul, Nat.reduceSub, reduceCtorEq, RC, Int.cast_ofNat_Int, hn, g7, g8, g11, g12, g64, g65, g66, hin.idx, hin.ld 0, hd.idx, hd.ld 0]
            refine condW_split (fun h5 => ?_) (fun h5 => ?_)
            · have hsz := hG.size x hx.1
              have hx0 := hG.xN.2
              repeat first | (with_reducible first | refine Wp.seq ?_ | refine Wp.reg ?_ | refine Wp.block ?_ | refine Wp.skip ?_ | refine Wp.ret ?_ | refine Wp.exit ?_ | refine Wp.label ?_ | refine Wp.condG ?_) | simp (disch := omega) only [↓RP, RQ, TS, TR, ↓reduceIte, Nat.reduceEqDiff, Nat.reduceLT, Nat.reduceLeDiff, Int.reduceLT, Int.reduceLE, Int.reduceEq, Int.reduceAdd, Int.reduceSub, Int.reduceNeg, Int.reduceToNat, Nat.reduceAdd, Nat.reduceMul, Nat.reduceSub, reduceCtorEq, RC, Int.cast_ofNat_Int, hn, g7, g8, g11, g12, g64, g65, g66, hd.idx, hd.ld 0, wrap_fit]
              refine hS.eStoreE 2 rfl [_] rfl rfl tS3 (by simp) (by simp only [List.length_map, List.length_cons, List.length_nil]; omega) fun H5 hS => ?_
              simp only [List.nil_append, List.cons_append, List.append_nil, List.set_cons_zero, List.set_cons_succ, setMany_cons, setMany_nil, Nat.zero_add, Nat.mul_one, Nat.add_zero] at hS
              rw [← List.map_set] at hS
              repeat first | (with_reducible first | refine Wp.seq ?_ | refine Wp.reg ?_ | refine Wp.block ?_ | refine Wp.skip ?_ | refine Wp.ret ?_ | refine Wp.exit ?_ | refine Wp.label ?_ | refine Wp.condG ?_) | simp (disch := omega) only [↓RP, RQ, TS, TR, ↓reduceIte, Nat.reduceEqDiff, Nat.reduceLT, Nat.reduceLeDiff, Int.reduceLT, Int.reduceLE, Int.reduceEq, Int.reduceAdd, Int.reduceSub, Int.reduceNeg, Int.reduceToNat, Nat.reduceAdd, Nat.reduceMul, Nat.reduceSub, reduceCtorEq, RC, Int.cast_ofNat_Int, hn, g7, g8, g11, g12, g64, g65, g66]
              refine hS.eSlice [I _] tP29 tF29 rfl rfl (by simp [Value.cells]) rfl rfl (by decide) (by decide) fun y H6 hS => ?_
              have hS := hS.front
              repeat first | (with_reducible first | refine Wp.seq ?_ | refine Wp.reg ?_ | refine Wp.block ?_ | refine Wp.skip ?_ | refine Wp.ret ?_ | refine Wp.exit ?_ | refine Wp.label ?_ | refine Wp.condG ?_) | simp (disch := omega) only [↓RP, RQ, TS, TR, ↓reduceIte, Nat.reduceEqDiff, Nat.reduceLT, Nat.reduceLeDiff, Int.reduceLT, Int.reduceLE, Int.reduceEq, Int.reduceAdd, Int.reduceSub, Int.reduceNeg, Int.reduceToNat, Nat.reduceAdd, Nat.reduceMul, Nat.reduceSub, reduceCtorEq, RC, Int.cast_ofNat_Int, hn, g7, g8, g11, g12, g64, g65, g66]
              refine hS.eAppend 1 rfl (hS.rd 0 rfl) tP29 (by simp only [nts, List.length_map, List.length_cons, List.length_nil]; omega) fun qv' H7 hS => ?_
              simp only [List.nil_append, List.cons_append, List.append_nil, List.set_cons_zero, List.set_cons_succ, setMany_cons, setMany_nil, Nat.zero_add, Nat.mul_one, Nat.add_zero] at hS
              have hcs := cnt_set d _ (d.getD x 0 + 1) (by omega) h5 (by omega)
              repeat first | (with_reducible first | refine Wp.seq ?_ | refine Wp.reg ?_ | refine Wp.block ?_ | refine Wp.skip ?_ | refine Wp.ret ?_ | refine Wp.exit ?_ | refine Wp.label ?_ | refine Wp.condG ?_) | simp (disch := omega) only [↓RP, RQ, TS, TR, ↓reduceIte, Nat.reduceEqDiff, Nat.reduceLT, Nat.reduceLeDiff, Int.reduceLT, Int.reduceLE, Int.reduceEq, Int.reduceAdd, Int.reduceSub, Int.reduceNeg, Int.reduceToNat, Nat.reduceAdd, Nat.reduceMul, Nat.reduceSub, reduceCtorEq, RC, Int.cast_ofNat_Int, hn, g7, g8, g11, g12, g64, g65, g66, wrap_fit]
              refine ⟨n2 - 1, by omega, j + 1, d.set ((nx x).getD j 0) (d.getD x 0 + 1), q ++ [(nx x).getD j 0], qv', by omega, rfl, rfl, ?_, ?_, ?_⟩
              · simp only [List.length_append, List.length_cons, List.length_nil]
                omega
              · rw [htk]
                exact hG.new _ htN hmem h5
              · have hS := hS.tail
                simpa [nts] using hS
            · repeat first | (with_reducible first | refine Wp.seq ?_ | refine Wp.reg ?_ | refine Wp.block ?_ | refine Wp.skip ?_ | refine Wp.ret ?_ | refine Wp.exit ?_ | refine Wp.label ?_ | refine Wp.condG ?_) | simp (disch := omega) only [↓RP, RQ, TS, TR, ↓reduceIte, Nat.reduceEqDiff, Nat.reduceLT, Nat.reduceLeDiff, Int.reduceLT, Int.reduceLE, Int.reduceEq, Int.reduceAdd, Int.reduceSub, Int.reduceNeg, Int.reduceToNat, Nat.reduceAdd, Nat.reduceMul, Nat.reduceSub, reduceCtorEq, RC, Int.cast_ofNat_Int, hn, g7, g8, g11, g12, g64, g65, g66, wrap_fit]
              refine ⟨n2 - 1, by omega, j + 1, d, q, qv, by omega, rfl, rfl, hcn, ?_, hS⟩
              rw [htk]
              exact hG.old _ (by omega)
          · repeat first | (with_reducible first | refine Wp.seq ?_ | refine Wp.reg ?_ | refine Wp.block ?_ | refine Wp.skip ?_ | refine Wp.ret ?_ | refine Wp.exit ?_ | refine Wp.label ?_ | refine Wp.condG ?_) | simp (disch := omega) only [↓RP, RQ, TS, TR, ↓reduceIte, Nat.reduceEqDiff, Nat.reduceLT, Nat.reduceLeDiff, Int.reduceLT, Int.reduceLE, Int.reduceEq, Int.reduceAdd, Int.reduceSub, Int.reduceNeg, Int.reduceToNat, Nat.reduceAdd, Nat.reduceMul, Nat.reduceSub, reduceCtorEq, RC, Int.cast_ofNat_Int, hn, g7, g8, g11, g12, g64, g65, g66]
            have hjl : (nx x).take j = nx x := List.take_of_length_le (by omega)
            rw [hjl] at hG
            exact ⟨_, by omega, d, q, qv, rfl, rfl, by omega, hG.shut (hnx x), hS⟩
        · repeat first | (with_reducible first | refine Wp.seq ?_ | refine Wp.reg ?_ | refine Wp.block ?_ | refine Wp.skip ?_ | refine Wp.ret ?_ | refine Wp.exit ?_ | refine Wp.label ?_ | refine Wp.condG ?_) | simp (disch := omega) only [↓RP, RQ, TS, TR, ↓reduceIte, Nat.reduceEqDiff, Nat.reduceLT, Nat.reduceLeDiff, Int.reduceLT, Int.reduceLE, Int.reduceEq, Int.reduceAdd, Int.reduceSub, Int.reduceNeg, Int.reduceToNat, Nat.reduceAdd, Nat.reduceMul, Nat.reduceSub, reduceCtorEq, RC, Int.cast_ofNat_Int, hn, g7, g8, g11]
          have hq0 : q = [] := List.eq_nil_of_length_eq_zero (by omega)
          subst hq0
          exact ⟨d, hB.isD hval', fun k hk => by have := hB.size k hk; omega, hS.sub (by simp)⟩
end Go.Ds
/-
  Plain graphs: the reference's table of steps, by relaxing edges until nothing changes.
-/
namespace Go.Plain

/-- A row of least numbers of edges, at least one, from a node; 0 where none lead. -/
structure IsS (es : List (Nat × Nat)) (N i : Nat) (row : List Nat) : Prop where
  len : row.length = N
  zero : ∀ k, k < N → row.getD k 0 = 0 → ∀ n, ¬ W es (n + 1) i k
  pos : ∀ k, k < N → 0 < row.getD k 0 → W es (row.getD k 0) i k ∧ ∀ n, W es (n + 1) i k → row.getD k 0 ≤ n + 1

def nz (row : List Nat) : Nat := row.countP (fun x => decide (0 < x))
def wt (N : Nat) (row : List Nat) : Nat := (row.map fun x => if x = 0 then N + 1 else x).sum

/-- What an edge offers its target. -/
def offer (i : Nat) (row : List Nat) (e : Nat × Nat) : Nat := if e.1 = i then 1 else if 0 < row.getD e.1 0 then row.getD e.1 0 + 1 else 0
def better (i : Nat) (row : List Nat) (e : Nat × Nat) : Prop := 0 < offer i row e ∧ (row.getD e.2 0 = 0 ∨ offer i row e < row.getD e.2 0)

structure RI (es : List (Nat × Nat)) (N i : Nat) (row : List Nat) : Prop where
  len : row.length = N
  walk : ∀ k, k < N → 0 < row.getD k 0 → W es (row.getD k 0) i k
  small : ∀ k, k < N → row.getD k 0 ≤ nz row

theorem getD_setN (d : List Nat) (t v k : Nat) (ht : t < d.length) : (d.set t v).getD k 0 = if k = t then v else d.getD k 0 := by
  simp only [List.getD_eq_getElem?_getD, List.getElem?_set]
  by_cases h : t = k
  · subst h; simp [ht]
  · simp [h, Ne.symm h]

theorem nz_set (d : List Nat) (t v : Nat) (ht : t < d.length) (hv : 0 < v) : nz (d.set t v) = nz d + if d.getD t 0 = 0 then 1 else 0 := by
  induction d generalizing t with
  | nil => simp at ht
  | cons a d ih =>
    cases t with
    | zero =>
      simp only [nz, List.set_cons_zero, List.countP_cons, List.getD_cons_zero, hv]
      by_cases h : a = 0
      · simp [h]
      · have : 0 < a := by omega
        simp [h, this]
    | succ t =>
      have := ih t (by simpa using ht)
      simp only [nz, List.set_cons_succ, List.countP_cons, List.getD_cons_succ] at this ⊢
      omega

theorem wt_set (N : Nat) (d : List Nat) (t v : Nat) (ht : t < d.length) (hv : 0 < v) : wt N (d.set t v) + (if d.getD t 0 = 0 then N + 1 else d.getD t 0) = wt N d + v := by
  induction d generalizing t with
  | nil => simp at ht
  | cons a d ih =>
    cases t with
    | zero =>
      have : v ≠ 0 := by omega
      simp only [wt, List.set_cons_zero, List.map_cons, List.sum_cons, List.getD_cons_zero, this, if_false]
      omega
    | succ t =>
      have := ih t (by simpa using ht)
      simp only [wt, List.set_cons_succ, List.map_cons, List.sum_cons, List.getD_cons_succ] at this ⊢
      omega

theorem nz_le (d : List Nat) : nz d ≤ d.length := List.countP_le_length

theorem RI.offer_le {es : List (Nat × Nat)} {N i : Nat} {row : List Nat} (h : RI es N i row) (e : Nat × Nat) (he : e.1 < N) : offer i row e ≤ nz row + 1 := by
  unfold offer
  have := h.small e.1 he
  split
  · omega
  · split <;> omega

theorem RI.step {es : List (Nat × Nat)} {N i : Nat} {row : List Nat} (h : RI es N i row) (e : Nat × Nat) (he : e ∈ es) (h1 : e.1 < N) (h2 : e.2 < N) (hb : better i row e) :
    RI es N i (row.set e.2 (offer i row e)) ∧ wt N (row.set e.2 (offer i row e)) < wt N row := by
  have hl : e.2 < row.length := by rw [h.len]; exact h2
  have hg := fun k => getD_setN row e.2 (offer i row e) k hl
  have hnz := nz_set row e.2 (offer i row e) hl hb.1
  have hwt := wt_set N row e.2 (offer i row e) hl hb.1
  have hoff := h.offer_le e h1
  have hN := nz_le row
  rw [h.len] at hN
  have hw : W es (offer i row e) i e.2 := by
    unfold offer
    split
    · rename_i hh
      exact ⟨i, rfl, by rw [← hh]; exact he⟩
    · split
      · rename_i h3 h4
        exact ⟨e.1, h.walk e.1 h1 h4, he⟩
      · rename_i h3 h4
        have := hb.1
        unfold offer at this
        rw [if_neg h3, if_neg h4] at this
        omega
  refine ⟨⟨by rw [List.length_set]; exact h.len, ?_, ?_⟩, ?_⟩
  · intro k hk hk0
    rw [hg] at hk0 ⊢
    split
    · rename_i e1; rw [e1]; exact hw
    · rename_i e1; rw [if_neg e1] at hk0; exact h.walk k hk hk0
  · intro k hk
    have := h.small k hk
    rw [hg, hnz]
    split
    · rcases hb.2 with h3 | h3
      · rw [if_pos h3]; exact hoff
      · have h4 := h.small e.2 h2
        omega
    · omega
  · rcases hb.2 with h3 | h3
    · rw [if_pos h3] at hwt
      have h5 : nz row < N := by
        have : nz row ≠ N := fun hh => by
          have h6 : nz row = row.length := by rw [hh, h.len]
          have h7 := List.countP_eq_length.1 h6
          have h8 := h7 (row.getD e.2 0) (by
            rw [List.getD_eq_getElem?_getD, List.getElem?_eq_getElem hl]
            exact List.getElem_mem hl)
          rw [h3] at h8
          cases h8
        omega
      omega
    · have h4 : row.getD e.2 0 ≠ 0 := by omega
      rw [if_neg h4] at hwt
      omega

theorem RI.first (es : List (Nat × Nat)) (N i : Nat) : RI es N i (List.replicate N 0) := by
  have hr : ∀ k, k < N → (List.replicate N 0).getD k 0 = 0 := fun k hk => by simp [List.getD_eq_getElem?_getD, hk]
  refine ⟨by simp, fun k hk h => ?_, fun k hk => ?_⟩
  · rw [hr k hk] at h; omega
  · rw [hr k hk]; omega

theorem RI.last {es : List (Nat × Nat)} {N i : Nat} {row : List Nat} (h : RI es N i row) (hi : i < N) (hv : ∀ e ∈ es, e.1 < N ∧ e.2 < N) (hs : ∀ e ∈ es, ¬ better i row e) : IsS es N i row := by
  have key : ∀ n k, W es (n + 1) i k → k < N ∧ 0 < row.getD k 0 ∧ row.getD k 0 ≤ n + 1 := by
    intro n
    induction n with
    | zero =>
      rintro k ⟨c, hc, hck⟩
      have e1 : i = c := hc
      subst e1
      have hb := hs _ hck
      unfold better offer at hb
      simp only [if_true] at hb
      have := (hv _ hck).2
      simp only at this
      refine ⟨this, ?_⟩
      omega
    | succ n ih =>
      rintro k ⟨c, hc, hck⟩
      obtain ⟨h1, h2, h3⟩ := ih c hc
      have hb := hs _ hck
      have := (hv _ hck).2
      simp only at this
      refine ⟨this, ?_⟩
      unfold better offer at hb
      simp only [h2, if_true] at hb
      split at hb <;> omega
  refine ⟨h.len, ?_, ?_⟩
  · intro k hk h0 n hn
    have := (key n k hn).2.1
    omega
  · intro k hk h0
    exact ⟨h.walk k hk h0, fun n hn => (key n k hn).2.2⟩
end Go.Plain
/-
  Contracts: Distance, Reach, the reference's Steps.
-/
namespace Go.Ds
open Go.Proofs Go.Plain
variable {H : Heap}

theorem RdAt.noTuple {v : Value} {size : Nat} {cs : List Value} (h : RdAt H v size cs) : noTuple v = true := by
  rcases h with ⟨rfl, rfl⟩ | ⟨A, i, e, row, ty, rw, lo, ver, n, h1, h2, h3, h4, h5, h6, rfl⟩ <;> rfl

theorem distance_ok (N : Nat) (v : Value) (es : List (Nat × Nat)) (hv : Eg H v es) (hN : N ≤ 200) (he : es.length ≤ 1000) (hval : ∀ e ∈ es, e.1 < N ∧ e.2 < N) (s : Nat) (hs : s < N) :
    Fn Try.prog 26 [.agg #[I N, v], I s] H fun r H' => ∃ (d : List Int) (w : Value), r = .tuple #[w, I 0] ∧ IsD es N s d ∧ St Try.prog H H' [⟨w, 1, d.map (.int .i64)⟩] := by
  refine Fn.of_wp (fn := Try.f26) rfl rfl (by kernel_rfl) fun l hl => ?_
  have hn : l.length = 17 := by rw [hl]; rfl
  have g0 : get l 0 = .agg #[I N, v] := by rw [hl]; rfl
  have g1 : get l 1 = I s := by rw [hl]; rfl
  clear hl
  repeat first | (with_reducible first | refine Wp.seq ?_ | refine Wp.reg ?_ | refine Wp.block ?_ | refine Wp.skip ?_ | refine Wp.ret ?_ | refine Wp.exit ?_ | refine Wp.label ?_ | refine Wp.condG ?_) | simp (disch := omega) only [↓RP, RQ, TS, TR, ↓reduceIte, Nat.reduceEqDiff, Nat.reduceLT, Nat.reduceLeDiff, Int.reduceLT, Int.reduceLE, Int.reduceEq, Int.reduceAdd, Int.reduceSub, Int.reduceNeg, Int.reduceToNat, Nat.reduceAdd, Nat.reduceMul, Nat.reduceSub, reduceCtorEq, RC, Int.cast_ofNat_Int, hn, g0, g1]
  refine (St.refl _ H).eNew 2 [I N, v] rfl rfl (by simp [hv.one]; rfl) tS27 fun A H1 hS => ?_
  repeat first | (with_reducible first | refine Wp.seq ?_ | refine Wp.reg ?_ | refine Wp.block ?_ | refine Wp.skip ?_ | refine Wp.ret ?_ | refine Wp.exit ?_ | refine Wp.label ?_ | refine Wp.condG ?_) | simp (disch := omega) only [↓RP, RQ, TS, TR, ↓reduceIte, Nat.reduceEqDiff, Nat.reduceLT, Nat.reduceLeDiff, Int.reduceLT, Int.reduceLE, Int.reduceEq, Int.reduceAdd, Int.reduceSub, Int.reduceNeg, Int.reduceToNat, Nat.reduceAdd, Nat.reduceMul, Nat.reduceSub, reduceCtorEq, RC, Int.cast_ofNat_Int, hn, g0, g1, hS.ldA 0 rfl]
  refine hS.eSlice [I s] tP29 tF29 rfl rfl (by simp [Value.cells]) rfl rfl (by decide) (by decide) fun x H2 hS => ?_
  repeat first | (with_reducible first | refine Wp.seq ?_ | refine Wp.reg ?_ | refine Wp.block ?_ | refine Wp.skip ?_ | refine Wp.ret ?_ | refine Wp.exit ?_ | refine Wp.label ?_ | refine Wp.condG ?_) | simp (disch := omega) only [↓RP, RQ, TS, TR, ↓reduceIte, Nat.reduceEqDiff, Nat.reduceLT, Nat.reduceLeDiff, Int.reduceLT, Int.reduceLE, Int.reduceEq, Int.reduceAdd, Int.reduceSub, Int.reduceNeg, Int.reduceToNat, Nat.reduceAdd, Nat.reduceMul, Nat.reduceSub, reduceCtorEq, RC, Int.cast_ofNat_Int, hn, g0, g1, hS.ld 0 rfl]
  refine callFW_of (with_ok N v es (hS.base hv) hN he hval x [s] (hS.rd 1 rfl) (by simp) (by simpa using hs)) ?_
  rintro r H3 ⟨rfl, hS3⟩
  have hS := hS.trans hS3
  repeat first | (with_reducible first | refine Wp.seq ?_ | refine Wp.reg ?_ | refine Wp.block ?_ | refine Wp.skip ?_ | refine Wp.ret ?_ | refine Wp.exit ?_ | refine Wp.label ?_ | refine Wp.condG ?_) | simp (disch := omega) only [↓RP, RQ, TS, TR, ↓reduceIte, Nat.reduceEqDiff, Nat.reduceLT, Nat.reduceLeDiff, Int.reduceLT, Int.reduceLE, Int.reduceEq, Int.reduceAdd, Int.reduceSub, Int.reduceNeg, Int.reduceToNat, Nat.reduceAdd, Nat.reduceMul, Nat.reduceSub, reduceCtorEq, RC, Int.cast_ofNat_Int, hn, g0, g1, hS.ldA 0 rfl]
  refine callFW_of (distances_ok N v es (hS.base hv) hN he hval s 0 hs (Nat.zero_le _)) ?_
  rintro w H4 ⟨d, hd, _, hS4⟩
  have hS := hS.trans hS4
  have hw := hS.rd 2 rfl
  repeat first | (with_reducible first | refine Wp.seq ?_ | refine Wp.reg ?_ | refine Wp.block ?_ | refine Wp.skip ?_ | refine Wp.ret ?_ | refine Wp.exit ?_ | refine Wp.label ?_ | refine Wp.condG ?_) | simp (disch := omega) only [↓RP, RQ, TS, TR, ↓reduceIte, Nat.reduceEqDiff, Nat.reduceLT, Nat.reduceLeDiff, Int.reduceLT, Int.reduceLE, Int.reduceEq, Int.reduceAdd, Int.reduceSub, Int.reduceNeg, Int.reduceToNat, Nat.reduceAdd, Nat.reduceMul, Nat.reduceSub, reduceCtorEq, RC, Int.cast_ofNat_Int, hn, g0, g1, hw.noTuple]
  exact ⟨d, w, rfl, hd, hS.sub (by simp)⟩

theorem reach_ok (N : Nat) (v : Value) (es : List (Nat × Nat)) (hv : Eg H v es) (hN : N ≤ 200) (he : es.length ≤ 1000) (hval : ∀ e ∈ es, e.1 < N ∧ e.2 < N) (s : Nat) (hs : s < N) :
    Fn Try.prog 25 [.agg #[I N, v], I s] H fun r H' => ∃ (d : List Int) (w : Value), r = .tuple #[w, I 0] ∧ IsD es N s d ∧ St Try.prog H H' [⟨w, 1, nts ((List.range N).filter fun k => decide (0 ≤ d.getD k 0))⟩] := by
  refine Fn.of_wp (fn := Try.f25) rfl rfl (by kernel_rfl) fun l hl => ?_
  have hn : l.length = 33 := by rw [hl]; rfl
  have g0 : get l 0 = .agg #[I N, v] := by rw [hl]; rfl
  have g1 : get l 1 = I s := by rw [hl]; rfl
  clear hl
  repeat first | (with_reducible first | refine Wp.seq ?_ | refine Wp.reg ?_ | refine Wp.block ?_ | refine Wp.skip ?_ | refine Wp.ret ?_ | refine Wp.exit ?_ | refine Wp.label ?_ | refine Wp.condG ?_) | simp (disch := omega) only [↓RP, RQ, TS, TR, ↓reduceIte, Nat.reduceEqDiff, Nat.reduceLT, Nat.reduceLeDiff, Int.reduceLT, Int.reduceLE, Int.reduceEq, Int.reduceAdd, Int.reduceSub, Int.reduceNeg, Int.reduceToNat, Nat.reduceAdd, Nat.reduceMul, Nat.reduceSub, reduceCtorEq, RC, Int.cast_ofNat_Int, hn, g0, g1]
  refine (St.refl _ H).eNew 2 [I N, v] rfl rfl (by simp [hv.one]; rfl) tS27 fun A H1 hS => ?_
  repeat first | (with_reducible first | refine Wp.seq ?_ | refine Wp.reg ?_ | refine Wp.block ?_ | refine Wp.skip ?_ | refine Wp.ret ?_ | refine Wp.exit ?_ | refine Wp.label ?_ | refine Wp.condG ?_) | simp (disch := omega) only [↓RP, RQ, TS, TR, ↓reduceIte, Nat.reduceEqDiff, Nat.reduceLT, Nat.reduceLeDiff, Int.reduceLT, Int.reduceLE, Int.reduceEq, Int.reduceAdd, Int.reduceSub, Int.reduceNeg, Int.reduceToNat, Nat.reduceAdd, Nat.reduceMul, Nat.reduceSub, reduceCtorEq, RC, Int.cast_ofNat_Int, hn, g0, g1, hS.ldA 0 rfl]
  refine callFW_of (distance_ok N v es (hS.base hv) hN he hval s hs) ?_
  rintro r H2 ⟨d, w, rfl, hd, hS2⟩
  have hS := hS.trans hS2
  have hw : Sl1 H2 w (.int .i64) d := hS.rd 1 rfl
  repeat first | (with_reducible first | refine Wp.seq ?_ | refine Wp.reg ?_ | refine Wp.block ?_ | refine Wp.skip ?_ | refine Wp.ret ?_ | refine Wp.exit ?_ | refine Wp.label ?_ | refine Wp.condG ?_) | simp (disch := omega) only [↓RP, RQ, TS, TR, ↓reduceIte, Nat.reduceEqDiff, Nat.reduceLT, Nat.reduceLeDiff, Int.reduceLT, Int.reduceLE, Int.reduceEq, Int.reduceAdd, Int.reduceSub, Int.reduceNeg, Int.reduceToNat, Nat.reduceAdd, Nat.reduceMul, Nat.reduceSub, reduceCtorEq, RC, Int.cast_ofNat_Int, hn, g0, g1, hw.len]
  have hS := (hS.nil 0).front
  simp only [List.nil_append, List.cons_append, List.append_nil, List.set_cons_zero, List.set_cons_succ, setMany_cons, setMany_nil, Nat.zero_add, Nat.mul_one, Nat.add_zero] at hS
  refine Wp.loopN (fun n l H' => l.length = 33 ∧ get l 7 = I 0 ∧ get l 17 = w ∧ get l 18 = I d.length ∧ ∃ (i : Nat) (o : Value), n + i = N ∧ get l 19 = I i ∧ get l 8 = o ∧
    St Try.prog H H' [⟨o, 1, nts ((List.range i).filter fun k => decide (0 ≤ d.getD k 0))⟩, ⟨ptr A 0 2, 0, [I N, v]⟩, ⟨w, 1, d.map (.int .i64)⟩]) N ?_ ?_
  · repeat first | (with_reducible first | refine Wp.seq ?_ | refine Wp.reg ?_ | refine Wp.block ?_ | refine Wp.skip ?_ | refine Wp.ret ?_ | refine Wp.exit ?_ | refine Wp.label ?_ | refine Wp.condG ?_) | simp (disch := omega) only [↓RP, RQ, TS, TR, ↓reduceIte, Nat.reduceEqDiff, Nat.reduceLT, Nat.reduceLeDiff, Int.reduceLT, Int.reduceLE, Int.reduceEq, Int.reduceAdd, Int.reduceSub, Int.reduceNeg, Int.reduceToNat, Nat.reduceAdd, Nat.reduceMul, Nat.reduceSub, reduceCtorEq, RC, Int.cast_ofNat_Int, hn]
    exact ⟨0, _, rfl, rfl, rfl, hS⟩
  clear hS hS2 hn g0 g1 hw
  rintro n l H' ⟨hn, g7, g17, g18, i, o, hi, g19, g8, hS⟩
  have hw : Sl1 H' w (.int .i64) d := hS.rd 2 rfl
  have hdl := hd.len
  repeat first | (with_reducible first | refine Wp.seq ?_ | refine Wp.reg ?_ | refine Wp.block ?_ | refine Wp.skip ?_ | refine Wp.ret ?_ | refine Wp.exit ?_ | refine Wp.label ?_ | refine Wp.condG ?_) | simp (disch := omega) only [↓RP, RQ, TS, TR, ↓reduceIte, Nat.reduceEqDiff, Nat.reduceLT, Nat.reduceLeDiff, Int.reduceLT, Int.reduceLE, Int.reduceEq, Int.reduceAdd, Int.reduceSub, Int.reduceNeg, Int.reduceToNat, Nat.reduceAdd, Nat.reduceMul, Nat.reduceSub, reduceCtorEq, RC, Int.cast_ofNat_Int, hn, g7, g17, g18, g19, g8]
  refine condW_split (fun h => ?_) (fun h => ?_)
  · repeat first | (with_reducible first | refine Wp.seq ?_ | refine Wp.reg ?_ | refine Wp.block ?_ | refine Wp.skip ?_ | refine Wp.ret ?_ | refine Wp.exit ?_ | refine Wp.label ?_ | refine Wp.condG ?_) | simp (disch := omega) only [↓RP, RQ, TS, TR, ↓reduceIte, Nat.reduceEqDiff, Nat.reduceLT, Nat.reduceLeDiff, Int.reduceLT, Int.reduceLE, Int.reduceEq, Int.reduceAdd, Int.reduceSub, Int.reduceNeg, Int.reduceToNat, Nat.reduceAdd, Nat.reduceMul, Nat.reduceSub, reduceCtorEq, RC, Int.cast_ofNat_Int, hn, g7, g17, g18, g19, g8, hw.idx, hw.ld 0]
    refine condW_split (fun h2 => ?_) (fun h2 => ?_)
    · repeat first | (with_reducible first | refine Wp.seq ?_ | refine Wp.reg ?_ | refine Wp.block ?_ | refine Wp.skip ?_ | refine Wp.ret ?_ | refine Wp.exit ?_ | refine Wp.label ?_ | refine Wp.condG ?_) | simp (disch := omega) only [↓RP, RQ, TS, TR, ↓reduceIte, Nat.reduceEqDiff, Nat.reduceLT, Nat.reduceLeDiff, Int.reduceLT, Int.reduceLE, Int.reduceEq, Int.reduceAdd, Int.reduceSub, Int.reduceNeg, Int.reduceToNat, Nat.reduceAdd, Nat.reduceMul, Nat.reduceSub, reduceCtorEq, RC, Int.cast_ofNat_Int, hn, g7, g17, g18, g19, g8]
      refine hS.eSlice [I i] tP29 tF29 rfl rfl (by simp [Value.cells]) rfl rfl (by decide) (by decide) fun x H2 hS => ?_
      repeat first | (with_reducible first | refine Wp.seq ?_ | refine Wp.reg ?_ | refine Wp.block ?_ | refine Wp.skip ?_ | refine Wp.ret ?_ | refine Wp.exit ?_ | refine Wp.label ?_ | refine Wp.condG ?_) | simp (disch := omega) only [↓RP, RQ, TS, TR, ↓reduceIte, Nat.reduceEqDiff, Nat.reduceLT, Nat.reduceLeDiff, Int.reduceLT, Int.reduceLE, Int.reduceEq, Int.reduceAdd, Int.reduceSub, Int.reduceNeg, Int.reduceToNat, Nat.reduceAdd, Nat.reduceMul, Nat.reduceSub, reduceCtorEq, RC, Int.cast_ofNat_Int, hn, g7, g17, g18, g19, g8]
      have hlen : ((List.range i).filter fun k => decide (0 ≤ d.getD k 0)).length ≤ i := by
        have := List.length_filter_le (fun k => decide (0 ≤ d.getD k 0)) (List.range i)
        simpa using this
      refine hS.eAppend 0 rfl (hS.rd 3 rfl) tP29 (by simp only [nts, List.length_map, List.length_cons, List.length_nil]; omega) fun o' H3 hS => ?_
      simp only [List.nil_append, List.cons_append, List.append_nil, List.set_cons_zero, List.set_cons_succ, setMany_cons, setMany_nil, Nat.zero_add, Nat.mul_one, Nat.add_zero] at hS
      repeat first | (with_reducible first | refine Wp.seq ?_ | refine Wp.reg ?_ | refine Wp.block ?_ | refine Wp.skip ?_ | refine Wp.ret ?_ | refine Wp.exit ?_ | refine Wp.label ?_ | refine Wp.condG ?_) | simp (disch := omega) only [↓RP, RQ, TS, TR, ↓reduceIte, Nat.reduceEqDiff, Nat.reduceLT, Nat.reduceLeDiff, Int.reduceLT, Int.reduceLE, Int.reduceEq, Int.reduceAdd, Int.reduceSub, Int.reduceNeg, Int.reduceToNat, Nat.reduceAdd, Nat.reduceMul, Nat.reduceSub, reduceCtorEq, RC, Int.cast_ofNat_Int, hn, g7, g17, g18, g19, g8, wrap_fit]
      refine ⟨n - 1, by omega, i + 1, o', by omega, rfl, rfl, ?_⟩
      rw [List.range_succ, List.filter_append]
      have e : [i].filter (fun k => decide (0 ≤ d.getD k 0)) = [i] := by simp only [List.filter_cons, List.filter_nil, decide_eq_true h2, if_true]
      rw [e, nts, List.map_append]
      exact hS.sub (by simp)
    · repeat first | (with_reducible first | refine Wp.seq ?_ | refine Wp.reg ?_ | refine Wp.block ?_ | refine Wp.skip ?_ | refine Wp.ret ?_ | refine Wp.exit ?_ | refine Wp.label ?_ | refine Wp.condG ?_) | simp (disch := omega) only [↓RP, RQ, TS, TR, ↓reduceIte, Nat.reduceEqDiff, Nat.reduceLT, Nat.reduceLeDiff, Int.reduceLT, Int.reduceLE, Int.reduceEq, Int.reduceAdd, Int.reduceSub, Int.reduceNeg, Int.reduceToNat, Nat.reduceAdd, Nat.reduceMul, Nat.reduceSub, reduceCtorEq, RC, Int.cast_ofNat_Int, hn, g7, g17, g18, g19, g8, wrap_fit]
      refine ⟨n - 1, by omega, i + 1, o, by omega, rfl, rfl, ?_⟩
      rw [List.range_succ, List.filter_append]
      have e : [i].filter (fun k => decide (0 ≤ d.getD k 0)) = [] := by simp only [List.filter_cons, List.filter_nil, decide_eq_false h2]; rfl
      rw [e, List.append_nil]
      exact hS
  · have ho := hS.rd 0 rfl
    repeat first | (with_reducible first | refine Wp.seq ?_ | refine Wp.reg ?_ | refine Wp.block ?_ | refine Wp.skip ?_ | refine Wp.ret ?_ | refine Wp.exit ?_ | refine Wp.label ?_ | refine Wp.condG ?_) | simp (disch := omega) only [↓RP, RQ, TS, TR, ↓reduceIte, Nat.reduceEqDiff, Nat.reduceLT, Nat.reduceLeDiff, Int.reduceLT, Int.reduceLE, Int.reduceEq, Int.reduceAdd, Int.reduceSub, Int.reduceNeg, Int.reduceToNat, Nat.reduceAdd, Nat.reduceMul, Nat.reduceSub, reduceCtorEq, RC, Int.cast_ofNat_Int, hn, g7, g17, g18, g19, g8, ho.noTuple]
    have e : i = N := by omega
    subst e
    exact ⟨d, o, rfl, hd, hS.sub (by simp)⟩
end Go.Ds
/-
  Ds: ranging over a function, in the calculus that goes from the end to the beginning.
-/
namespace Go.Ds
section
variable {P : Program} {B : Base} {H : Heap}

/-- As 'Fn', with the run of the body. -/
def FnS (P : Program) (k : FuncId) (args : List Value) (H : Heap) (R : Value → Heap → Prop) : Prop :=
  ∃ fn c e l1 H1 v, P.funcs[k]? = some fn ∧ fn.body = some c ∧ (fn.name == "runtime.NumGoroutine") = false ∧ Sim P c (args ++ List.replicate (fn.ntmps - args.length) undef) H e l1 H1 ∧ (e = .normal ∨ e = .ret) ∧ resultsD P fn l1 H1 = some v ∧ R v H1

theorem FnS.of_wp {k : FuncId} {fn : Func} {c : Code} {args : List Value} {R : Value → Heap → Prop} (hf : P.funcs[k]? = some fn) (hb : fn.body = some c) (hn : (fn.name == "runtime.NumGoroutine") = false)
    (h : ∀ l, l = args ++ List.replicate (fn.ntmps - args.length) undef → Wp P c l H (endQ P fn R)) : FnS P k args H R := by
  obtain ⟨e, l1, H1, h1, h2, h3⟩ := h _ rfl
  unfold bindV at h3
  split at h3
  · rename_i v hv; exact ⟨fn, c, e, l1, H1, v, hf, hb, hn, h1, h2, hv, h3⟩
  · exact h3.elim

theorem FnS.fn {k : FuncId} {args : List Value} {R : Value → Heap → Prop} (h : FnS P k args H R) : Fn P k args H R := by
  obtain ⟨fn, c, e, l1, H1, v, hf, hb, hn, h1, h2, h3, h4⟩ := h
  exact ⟨⟨fn, hf, by simp [hb], hn⟩, v, H1, .of_sim hf hb hn h1 h2 h3, h4⟩

theorem FnS.mono {k : FuncId} {args : List Value} {R R' : Value → Heap → Prop} (h : FnS P k args H R) (hr : ∀ v H1, R v H1 → R' v H1) : FnS P k args H R' := by
  obtain ⟨fn, c, e, l1, H1, v, hf, hb, hn, h1, h2, h3, h4⟩ := h
  exact ⟨fn, c, e, l1, H1, v, hf, hb, hn, h1, h2, h3, hr _ _ h4⟩

/-- The record of a loop over a function, as it begins. -/
def loop0 (l : List Value) (ps : Array Tmp) (assign body : Code) : Loop := { state := .ready, pending := none, fn := 0, tmps := l.toArray, params := ps, assign := assign, body := body, defers := 0 }

/-- What is owed behind the iterator's call. -/
def afterQ (P : Program) (l : List Value) (L : Nat) (Q : Out) : Value → Heap → Prop := fun _ H2 => ∃ r, hget H2 L = some (.loop r) ∧ r.state ≠ .busy ∧
  (r.pending = none → Q .normal l (hset H2 L (.loop { r with state := .exhausted }))) ∧ ∀ c, r.pending = some c → Wp P c l (hset H2 L (.loop { r with state := .exhausted })) Q

theorem Wp.range {g : Operand} {ps : Array Tmp} {assign body : Code} {l : List Value} {Q : Out} {k : FuncId} {first captured : List Value} (hgo : operandOk g = true) (hg : ev l g = .func (.func k) first.toArray captured.toArray)
    (h : FnS P k (first ++ [.func (.yield H.length) #[] #[]] ++ captured) (H.cons (.loop (loop0 l ps assign body))) (afterQ P l H.length Q)) : Wp P (.rangeFunc g ps assign body) l H Q := by
  classical
  obtain ⟨fn, c, e, l1, H2, v, hf, hb, hn, hs, he, hres, r, hr, hnb, hp⟩ := h
  let sl := (first ++ [Value.func (.yield H.length) #[] #[]] ++ captured) ++ List.replicate (fn.ntmps - (first ++ [Value.func (.yield H.length) #[] #[]] ++ captured).length) undef
  let H1 := H.cons (.loop (loop0 l ps assign body))
  let ex : Run := fun c' l' H' => if c' = c ∧ l' = sl ∧ H' = H1 then some (e, l1, H2) else none
  have hex : ∀ c l H e l' H', ex c l H = some (e, l', H') → Sim P c l H e l' H' := by
    intro c' l' H' e' l2 H3 hh
    simp only [ex] at hh
    split at hh
    · rename_i h1
      obtain ⟨rfl, rfl, rfl⟩ := h1
      injection hh with hh
      injection hh with h1 hh
      injection hh with h2 h3
      subst h1 h2 h3
      exact hs
    · cases hh
  have hc : enterD P ex (ev l g) H.length (H.cons (.loop { state := .ready, pending := none, fn := 0, tmps := l.toArray, params := ps, assign, body, defers := 0 })) = some (v, H2) := by
    unfold enterD
    rw [hg]
    show callF P ex k (first ++ [Value.func (.yield H.length) #[] #[]] ++ captured) H1 = some (v, H2)
    unfold callF
    rw [hf]
    have h1 : ex c sl H1 = some (e, l1, H2) := by simp [ex]
    simp only [hb, hn, Bool.false_eq_true, if_false]
    rw [show ex c ((first ++ [Value.func (.yield H.length) #[] #[]] ++ captured) ++ List.replicate (fn.ntmps - (first ++ [Value.func (.yield H.length) #[] #[]] ++ captured).length) undef) H1 = some (e, l1, H2) from h1]
    rcases he with rfl | rfl <;> simp [hres]
  by_cases hpend : r.pending = none
  · exact ⟨.normal, l, _, range_ok hex hc hgo hr hnb (fun _ => ⟨rfl, rfl, rfl⟩) (fun c h => by rw [hpend] at h; cases h), hp.1 hpend⟩
  · obtain ⟨c', hc'⟩ := Option.ne_none_iff_exists'.1 hpend
    obtain ⟨e', l', H', hs', hq⟩ := hp.2 c' hc'
    exact ⟨e', l', H', range_ok hex hc hgo hr hnb (fun h => absurd h hpend) (fun c h => by
      rw [hc'] at h
      obtain rfl := Option.some.inj h
      exact hs'), hq⟩

/-- How a round ends. -/
def jumpOf : Ex → Option Code
  | .normal => none
  | .ret => some .ret
  | .exit id => some (.exit id)

theorem callW_yield {L : Nat} {args : List Value} {K : Value → Heap → Prop} {r : Loop} (hg : hget H L = some (.loop r)) (hn : r.params.size = args.length) (hst : r.state = .ready)
    (h : Wp P r.assign ((r.params.toList.zip args).foldl (fun t (p, v) => t.set p v) r.tmps.toList) H fun e l1 H1 => e = .normal ∧ ∃ r1, hget H1 L = some (.loop r1) ∧ r1.state = .ready ∧
      Wp P r.body l1 (hset H1 L (.loop { r1 with state := .busy })) fun e _ H2 => ∃ r2, hget H2 L = some (.loop r2) ∧
        K (.bool (jumpOf e).isNone) (hset H2 L (.loop { r2 with state := if (jumpOf e).isNone then .ready else .done, pending := jumpOf e }))) :
    callW P (.func (.yield L) #[] #[]) args H K := by
  classical
  obtain ⟨e1, l1, H1, hs1, rfl, r1, hg1, hst1, e2, l2, H2, hs2, r2, hg2, hk⟩ := h
  refine ⟨_, _, ?_, hk⟩
  let sl := (r.params.toList.zip args).foldl (fun t (p, v) => t.set p v) r.tmps.toList
  let Hb := hset H1 L (.loop { r1 with state := .busy })
  let ex : Run := fun c' l' H' => if c' = r.assign ∧ l' = sl ∧ H' = H then some (.normal, l1, H1) else if c' = r.body ∧ l' = l1 ∧ H' = Hb then some (e2, l2, H2) else none
  have hex : ∀ c l H e l' H', ex c l H = some (e, l', H') → Sim P c l H e l' H' := by
    intro c' l' H' e' l3 H3 hh
    simp only [ex] at hh
    split at hh
    · rename_i h1
      obtain ⟨rfl, rfl, rfl⟩ := h1
      injection hh with hh
      injection hh with h1 hh
      injection hh with h2 h3
      subst h1 h2 h3
      exact hs1
    · split at hh
      · rename_i h1
        obtain ⟨rfl, rfl, rfl⟩ := h1
        injection hh with hh
        injection hh with h1 hh
        injection hh with h2 h3
        subst h1 h2 h3
        exact hs2
      · cases hh
  have hbH : ¬ Hb = H := by
    intro hh
    have h1 : hget Hb L = some (.loop { r1 with state := .busy }) := hget_hset_same _ (hget_lt hg1)
    rw [hh, hg] at h1
    injection h1 with h1
    injection h1 with h1
    have h2 : r.state = .busy := by rw [h1]
    rw [hst] at h2
    cases h2
  have hc : roundD ex L args H = some (.bool (jumpOf e2).isNone, hset H2 L (.loop { r2 with state := if (jumpOf e2).isNone then .ready else .done, pending := jumpOf e2 })) := by
    unfold roundD
    rw [hg]
    simp only
    rw [if_pos ⟨hn, hst⟩]
    have h1 : ex r.assign sl H = some (.normal, l1, H1) := by simp [ex]
    have h2 : ex r.body l1 Hb = some (e2, l2, H2) := by
      simp only [ex]
      rw [if_neg (fun hh => hbH hh.2.2), if_pos ⟨trivial, trivial, trivial⟩]
    rw [show ex r.assign ((r.params.toList.zip args).foldl (fun t (p, v) => t.set p v) r.tmps.toList) H = some (.normal, l1, H1) from h1]
    simp only [hg1]
    rw [if_pos hst1]
    rw [show ex r.body l1 (hset H1 L (.loop { r1 with state := .busy })) = some (e2, l2, H2) from h2]
    simp only [hg2]
    cases e2 <;> rfl
  exact fun ρ w p args' k hr hp ha => round_ok hex hc hr hp ha k

/-! ### A loop's record beside what is ours -/
structure Lp (P : Program) (B : Base) (L : Nat) (r : Loop) (H : Heap) (os : List Ob) : Prop where
  st : St P B H os
  get : hget H L = some (.loop r)
  lo : B.H.length ≤ L
  ne : ∀ o ∈ os, blk o.v ≠ some L

theorem hget_hset {H : Heap} {A : Nat} {b c : Blk} (h : hget H A = some c) : hget (hset H A b) A = some b := hget_hset_same b (hget_lt h)

theorem Lp.enter {os : List Ob} (hS : St P B H os) (r : Loop) : Lp P B H.length r (H.cons (.loop r)) os where
  st := by
    have h1 : St P H (H.cons (.loop r)) [] := ⟨by rw [cons_eq]; exact Nat.le_succ _, fun B hB _ => hget_cons_old _ hB, by simp, by simp, .nil⟩
    simpa using hS.trans h1
  get := hget_cons_new H _
  lo := hS.len
  ne o ho hb := by
    have := (hS.own o ho).lt hb
    omega

theorem Lp.ext {L : Nat} {r : Loop} {H2 : Heap} {os os2 : List Ob} (h : Lp P B L r H os) (h2 : St P H H2 os2) : Lp P B L r H2 (os ++ os2) where
  st := h.st.trans h2
  get := by rw [h2.keep L (hget_lt h.get)]; exact h.get
  lo := h.lo
  ne o ho hb := by
    rcases List.mem_append.1 ho with ho | ho
    · exact h.ne o ho hb
    · have hl := hget_lt h.get
      rcases h2.new o ho L hb with h3 | h3
      · have h3 : H.length ≤ L := h3
        omega
      · exact h3

theorem Lp.sub {L : Nat} {r : Loop} {os os' : List Ob} (h : Lp P B L r H os) (hs : os'.Sublist os) : Lp P B L r H os' := ⟨h.st.sub hs, h.get, h.lo, fun o ho => h.ne o (hs.subset ho)⟩

theorem Lp.set {L : Nat} {r : Loop} {os : List Ob} (h : Lp P B L r H os) (hX : ¬ B.X L) (r' : Loop) : Lp P B L r' (hset H L (.loop r')) os where
  st := by
    refine ⟨by rw [length_hset]; exact h.st.len, ?_, ?_, h.st.new, h.st.sep⟩
    · intro A hA hXA
      rw [hget_hset_ne _ (by have := h.lo; omega)]
      exact h.st.old A hA hXA
    · intro o ho
      exact (h.st.own o ho).keep fun A hA => hget_hset_ne _ (fun hh => h.ne o ho (by rw [hA, hh]))
  get := hget_hset h.get
  lo := h.lo
  ne := h.ne

theorem Lp.body {L : Nat} {r : Loop} {H2 : Heap} {os os2 : List Ob} (h : Lp P B L r H os) (h2 : St P ⟨H, blksOf os⟩ H2 os2) : Lp P B L r H2 os2 where
  st := h.st.unbase h2
  get := by rw [h2.other (hget_lt h.get) h.ne]; exact h.get
  lo := h.lo
  ne o ho hb := by
    have hl := hget_lt h.get
    rcases h2.new o ho L hb with h3 | ⟨o', ho', hb'⟩
    · have h3 : H.length ≤ L := h3
      omega
    · exact h.ne o' ho' hb'

end
end Go.Ds
/-
  Plain graphs: the first shortest way, edge by edge.
-/
namespace Go.Plain

/-- All edges turned round. -/
def tE (es : List (Nat × Nat)) : List (Nat × Nat) := es.map fun e => (e.2, e.1)

/-- An edge that brings one nearer. -/
def mt (d : List Int) (m a : Nat) (e : Nat × Nat) : Bool := e.1 == a && d.getD e.2 0 == (m : Int)

/-- The first edge from an index on that brings one nearer. -/
def pk (es : List (Nat × Nat)) (first : Nat) (d : List Int) (m a : Nat) : Nat := first + (es.drop first).findIdx (mt d m a)

def pF (es : List (Nat × Nat)) (first : Nat) (d : List Int) : Nat → Nat → List Nat
  | 0, _ => []
  | m + 1, a => pk es first d m a :: pF es first d m (es.getD (pk es first d m a) (0, 0)).2

theorem mt_iff (d : List Int) (m a : Nat) (e : Nat × Nat) : mt d m a e = true ↔ e.1 = a ∧ d.getD e.2 0 = (m : Int) := by simp [mt]

theorem getD_drop {α : Type} (l : List α) (n i : Nat) (d : α) : (l.drop n).getD i d = l.getD (n + i) d := by simp [List.getD_eq_getElem?_getD]

theorem pk_spec (es : List (Nat × Nat)) (first : Nat) (d : List Int) (m a : Nat) (h : ∃ j, first ≤ j ∧ j < es.length ∧ mt d m a (es.getD j (0, 0)) = true) :
    first ≤ pk es first d m a ∧ pk es first d m a < es.length ∧ mt d m a (es.getD (pk es first d m a) (0, 0)) = true ∧ ∀ i, first ≤ i → i < pk es first d m a → mt d m a (es.getD i (0, 0)) = false := by
  obtain ⟨j, h1, h2, h3⟩ := h
  have hlt : (es.drop first).findIdx (mt d m a) < (es.drop first).length := by
    apply List.findIdx_lt_length_of_exists
    refine ⟨es.getD j (0, 0), ?_, h3⟩
    rw [show j = first + (j - first) from by omega, ← getD_drop]
    have hl : j - first < (es.drop first).length := by simp; omega
    rw [List.getD_eq_getElem?_getD, List.getElem?_eq_getElem hl]
    exact List.getElem_mem hl
  have hlen : (es.drop first).length = es.length - first := List.length_drop
  refine ⟨Nat.le_add_right _ _, by unfold pk; omega, ?_, ?_⟩
  · have := List.findIdx_getElem (w := hlt)
    unfold pk
    rw [← getD_drop, List.getD_eq_getElem?_getD, List.getElem?_eq_getElem hlt]
    exact this
  · intro i hi1 hi2
    have hi3 : i - first < (es.drop first).findIdx (mt d m a) := by unfold pk at hi2; omega
    have := List.not_of_lt_findIdx hi3
    rw [show i = first + (i - first) from by omega, ← getD_drop, List.getD_eq_getElem?_getD, List.getElem?_eq_getElem (by omega)]
    simpa using this

theorem pk_eq (es : List (Nat × Nat)) (first : Nat) (d : List Int) (m a j : Nat) (h1 : first ≤ j) (h2 : j < es.length) (h3 : mt d m a (es.getD j (0, 0)) = true) (h4 : ∀ i, first ≤ i → i < j → mt d m a (es.getD i (0, 0)) = false) : pk es first d m a = j := by
  obtain ⟨a1, a2, a3, a4⟩ := pk_spec es first d m a ⟨j, h1, h2, h3⟩
  rcases Nat.lt_trichotomy (pk es first d m a) j with h | h | h
  · rw [h4 _ a1 h] at a3; cases a3
  · exact h
  · rw [a4 j h1 h] at h3; cases h3

theorem mem_tE {es : List (Nat × Nat)} {a b : Nat} : (a, b) ∈ tE es ↔ (b, a) ∈ es := by
  unfold tE
  rw [List.mem_map]
  constructor
  · rintro ⟨⟨x, y⟩, h, e⟩
    simp only [Prod.mk.injEq] at e
    obtain ⟨rfl, rfl⟩ := e
    exact h
  · exact fun h => ⟨(b, a), h, rfl⟩

theorem tE_length (es : List (Nat × Nat)) : (tE es).length = es.length := by simp [tE]
theorem tE_drop (es : List (Nat × Nat)) (n : Nat) : (tE es).drop n = tE (es.drop n) := by simp [tE, List.map_drop]
theorem tE_val {es : List (Nat × Nat)} {N : Nat} (h : ∀ e ∈ es, e.1 < N ∧ e.2 < N) : ∀ e ∈ tE es, e.1 < N ∧ e.2 < N := by
  rintro ⟨a, b⟩ he
  have := h _ (mem_tE.1 he)
  exact ⟨this.2, this.1⟩

/-- From a node that is m + 1 away an edge leads to one that is m away. -/
theorem nearer {es : List (Nat × Nat)} {N t first : Nat} {d : List Int} (hv : ∀ e ∈ es, e.1 < N ∧ e.2 < N) (hd : IsD (tE (es.drop first)) N t d) (a m : Nat) (ha : a < N) (hm : d.getD a 0 = (m + 1 : Nat)) :
    ∃ j, first ≤ j ∧ j < es.length ∧ mt d m a (es.getD j (0, 0)) = true := by
  have h1 := (hd.pos a ha (by omega)).1
  rw [hm] at h1
  obtain ⟨c, hc, he⟩ : ∃ c, W (tE (es.drop first)) m t c ∧ (c, a) ∈ tE (es.drop first) := h1
  have he := mem_tE.1 he
  have hcN : c < N := (hv _ (List.mem_of_mem_drop he)).2
  have hdc : d.getD c 0 = (m : Int) := by
    by_cases h0 : d.getD c 0 < 0
    · exact ((hd.neg c hcN h0).2 m hc).elim
    · have h2 := hd.pos c hcN (by omega)
      have h3 := h2.2 m hc
      have h4 := (hd.pos a ha (by omega)).2 ((d.getD c 0).toNat + 1) ⟨c, h2.1, mem_tE.2 he⟩
      omega
  obtain ⟨i, hi, hie⟩ := List.getElem_of_mem he
  have hi' : i < es.length - first := by simpa using hi
  refine ⟨first + i, by omega, by omega, ?_⟩
  rw [← getD_drop, List.getD_eq_getElem?_getD, List.getElem?_eq_getElem hi, hie]
  exact (mt_iff ..).2 ⟨rfl, hdc⟩
end Go.Plain
/-
  Contracts: turned, out.
-/
namespace Go.Ds
open Go.Proofs Go.Plain
variable {H : Heap}



theorem turned_ok (N : Nat) (v : Value) (es : List (Nat × Nat)) (hv : Eg H v es) (he : es.length ≤ 1000) : Fn Try.prog 44 [.agg #[I N, v]] H fun r H' => ∃ w, r = .agg #[I N, w] ∧ Eg H' w (tE es) ∧ St Try.prog H H' [] := by
  refine Fn.of_wp (fn := Try.f44) rfl rfl (by kernel_rfl) fun l hl => ?_
  have hn : l.length = 28 := by rw [hl]; rfl
  have g0 : get l 0 = .agg #[I N, v] := by rw [hl]; rfl
  clear hl
  repeat first | (with_reducible first | refine Wp.seq ?_ | refine Wp.reg ?_ | refine Wp.block ?_ | refine Wp.skip ?_ | refine Wp.ret ?_ | refine Wp.exit ?_ | refine Wp.label ?_ | refine Wp.condG ?_) | simp (disch := omega) only [↓RP, RQ, TS, TR, ↓reduceIte, Nat.reduceEqDiff, Nat.reduceLT, Nat.reduceLeDiff, Int.reduceLT, Int.reduceLE, Int.reduceEq, Int.reduceAdd, Int.reduceSub, Int.reduceNeg, Int.reduceToNat, Nat.reduceAdd, Nat.reduceMul, Nat.reduceSub, reduceCtorEq, RC, Int.cast_ofNat_Int, hn, g0]
  refine (St.refl _ H).eNew 2 [I N, v] rfl rfl (by simp [hv.one]; rfl) tS27 fun A H1 hS => ?_
  repeat first | (with_reducible first | refine Wp.seq ?_ | refine Wp.reg ?_ | refine Wp.block ?_ | refine Wp.skip ?_ | refine Wp.ret ?_ | refine Wp.exit ?_ | refine Wp.label ?_ | refine Wp.condG ?_) | simp (disch := omega) only [↓RP, RQ, TS, TR, ↓reduceIte, Nat.reduceEqDiff, Nat.reduceLT, Nat.reduceLeDiff, Int.reduceLT, Int.reduceLE, Int.reduceEq, Int.reduceAdd, Int.reduceSub, Int.reduceNeg, Int.reduceToNat, Nat.reduceAdd, Nat.reduceMul, Nat.reduceSub, reduceCtorEq, RC, Int.cast_ofNat_Int, hn, g0]
  refine hS.eNew 2 [I 0, .slice none 0 0] rfl rfl rfl tS27 fun B H2 hS => ?_
  repeat first | (with_reducible first | refine Wp.seq ?_ | refine Wp.reg ?_ | refine Wp.block ?_ | refine Wp.skip ?_ | refine Wp.ret ?_ | refine Wp.exit ?_ | refine Wp.label ?_ | refine Wp.condG ?_) | simp (disch := omega) only [↓RP, RQ, TS, TR, ↓reduceIte, Nat.reduceEqDiff, Nat.reduceLT, Nat.reduceLeDiff, Int.reduceLT, Int.reduceLE, Int.reduceEq, Int.reduceAdd, Int.reduceSub, Int.reduceNeg, Int.reduceToNat, Nat.reduceAdd, Nat.reduceMul, Nat.reduceSub, reduceCtorEq, RC, Int.cast_ofNat_Int, hn, g0, hS.ld 0 rfl]
  refine hS.eNew 2 [I 0, .slice none 0 0] rfl rfl rfl tS27 fun C H3 hS => ?_
  repeat first | (with_reducible first | refine Wp.seq ?_ | refine Wp.reg ?_ | refine Wp.block ?_ | refine Wp.skip ?_ | refine Wp.ret ?_ | refine Wp.exit ?_ | refine Wp.label ?_ | refine Wp.condG ?_) | simp (disch := omega) only [↓RP, RQ, TS, TR, ↓reduceIte, Nat.reduceEqDiff, Nat.reduceLT, Nat.reduceLeDiff, Int.reduceLT, Int.reduceLE, Int.reduceEq, Int.reduceAdd, Int.reduceSub, Int.reduceNeg, Int.reduceToNat, Nat.reduceAdd, Nat.reduceMul, Nat.reduceSub, reduceCtorEq, RC, Int.cast_ofNat_Int, hn, g0]
  refine hS.eStore 2 rfl [_, _] rfl rfl tS27 (by simp) fun H4 hS => ?_
  have hS := hS.nil 1
  simp only [List.nil_append, List.cons_append, List.append_nil, List.set_cons_zero, List.set_cons_succ, setMany_cons, setMany_nil, Nat.zero_add, Nat.mul_one, Nat.add_zero] at hS
  have hv1 : Sl2 H4 v _ _ es := hS.base hv
  repeat first | (with_reducible first | refine Wp.seq ?_ | refine Wp.reg ?_ | refine Wp.block ?_ | refine Wp.skip ?_ | refine Wp.ret ?_ | refine Wp.exit ?_ | refine Wp.label ?_ | refine Wp.condG ?_) | simp (disch := omega) only [↓RP, RQ, TS, TR, ↓reduceIte, Nat.reduceEqDiff, Nat.reduceLT, Nat.reduceLeDiff, Int.reduceLT, Int.reduceLE, Int.reduceEq, Int.reduceAdd, Int.reduceSub, Int.reduceNeg, Int.reduceToNat, Nat.reduceAdd, Nat.reduceMul, Nat.reduceSub, reduceCtorEq, RC, Int.cast_ofNat_Int, hn, g0, hS.ld 0 rfl, hv1.len]
  refine Wp.loopN (fun n l H' => l.length = 28 ∧ get l 2 = ptr B 0 2 ∧ get l 3 = ptr C 0 2 ∧ get l 10 = v ∧ get l 11 = I es.length ∧ ∃ (i : Nat) (w : Value), n + i = es.length ∧ get l 12 = I i ∧
    St Try.prog H H' [⟨ptr A 0 2, 0, [I N, v]⟩, ⟨ptr B 0 2, 0, [I 0, .slice none 0 0]⟩, ⟨ptr C 0 2, 0, [I N, w]⟩, ⟨w, 2, eg (tE (es.take i))⟩]) es.length ?_ ?_
  · repeat first | (with_reducible first | refine Wp.seq ?_ | refine Wp.reg ?_ | refine Wp.block ?_ | refine Wp.skip ?_ | refine Wp.ret ?_ | refine Wp.exit ?_ | refine Wp.label ?_ | refine Wp.condG ?_) | simp (disch := omega) only [↓RP, RQ, TS, TR, ↓reduceIte, Nat.reduceEqDiff, Nat.reduceLT, Nat.reduceLeDiff, Int.reduceLT, Int.reduceLE, Int.reduceEq, Int.reduceAdd, Int.reduceSub, Int.reduceNeg, Int.reduceToNat, Nat.reduceAdd, Nat.reduceMul, Nat.reduceSub, reduceCtorEq, RC, Int.cast_ofNat_Int, hn, g0]
    exact ⟨0, _, rfl, rfl, hS⟩
  clear hS hn g0 hv1
  rintro n l H' ⟨hn, g2, g3, g10, g11, i, w, hi, g12, hS⟩
  have hv1 : Sl2 H' v _ _ es := hS.base hv
  repeat first | (with_reducible first | refine Wp.seq ?_ | refine Wp.reg ?_ | refine Wp.block ?_ | refine Wp.skip ?_ | refine Wp.ret ?_ | refine Wp.exit ?_ | refine Wp.label ?_ | refine Wp.condG ?_) | simp (disch := omega) only [↓RP, RQ, TS, TR, ↓reduceIte, Nat.reduceEqDiff, Nat.reduceLT, Nat.reduceLeDiff, Int.reduceLT, Int.reduceLE, Int.reduceEq, Int.reduceAdd, Int.reduceSub, Int.reduceNeg, Int.reduceToNat, Nat.reduceAdd, Nat.reduceMul, Nat.reduceSub, reduceCtorEq, RC, Int.cast_ofNat_Int, hn, g2, g3, g10, g11, g12]
  refine condW_split (fun h => ?_) (fun h => ?_)
  · repeat first | (with_reducible first | refine Wp.seq ?_ | refine Wp.reg ?_ | refine Wp.block ?_ | refine Wp.skip ?_ | refine Wp.ret ?_ | refine Wp.exit ?_ | refine Wp.label ?_ | refine Wp.condG ?_) | simp (disch := omega) only [↓RP, RQ, TS, TR, ↓reduceIte, Nat.reduceEqDiff, Nat.reduceLT, Nat.reduceLeDiff, Int.reduceLT, Int.reduceLE, Int.reduceEq, Int.reduceAdd, Int.reduceSub, Int.reduceNeg, Int.reduceToNat, Nat.reduceAdd, Nat.reduceMul, Nat.reduceSub, reduceCtorEq, RC, Int.cast_ofNat_Int, hn, g2, g3, g10, g11, g12, hv1.idx, hv1.ldA (0, 0)]
    refine hS.eNew 2 [I 0, I 0] rfl rfl rfl tS48 fun D H5 hS => ?_
    repeat first | (with_reducible first | refine Wp.seq ?_ | refine Wp.reg ?_ | refine Wp.block ?_ | refine Wp.skip ?_ | refine Wp.ret ?_ | refine Wp.exit ?_ | refine Wp.label ?_ | refine Wp.condG ?_) | simp (disch := omega) only [↓RP, RQ, TS, TR, ↓reduceIte, Nat.reduceEqDiff, Nat.reduceLT, Nat.reduceLeDiff, Int.reduceLT, Int.reduceLE, Int.reduceEq, Int.reduceAdd, Int.reduceSub, Int.reduceNeg, Int.reduceToNat, Nat.reduceAdd, Nat.reduceMul, Nat.reduceSub, reduceCtorEq, RC, Int.cast_ofNat_Int, hn, g2, g3, g10, g11, g12]
    refine hS.eStore 4 rfl [_, _] rfl rfl tS48 (by simp) fun H6 hS => ?_
    simp only [List.nil_append, List.cons_append, List.append_nil, List.set_cons_zero, List.set_cons_succ, setMany_cons, setMany_nil, Nat.zero_add, Nat.mul_one, Nat.add_zero] at hS
    repeat first | (with_reducible first | refine Wp.seq ?_ | refine Wp.reg ?_ | refine Wp.block ?_ | refine Wp.skip ?_ | refine Wp.ret ?_ | refine Wp.exit ?_ | refine Wp.label ?_ | refine Wp.condG ?_) | simp (disch := omega) only [↓RP, RQ, TS, TR, ↓reduceIte, Nat.reduceEqDiff, Nat.reduceLT, Nat.reduceLeDiff, Int.reduceLT, Int.reduceLE, Int.reduceEq, Int.reduceAdd, Int.reduceSub, Int.reduceNeg, Int.reduceToNat, Nat.reduceAdd, Nat.reduceMul, Nat.reduceSub, reduceCtorEq, RC, Int.cast_ofNat_Int, hn, g2, g3, g10, g11, g12, hS.ld 2 rfl, hS.ld 4 rfl]
    refine hS.eSlice [I _, I _] tP25 tF25 rfl rfl (by simp [Value.cells]) rfl rfl (by decide) (by decide) fun x H7 hS => ?_
    repeat first | (with_reducible first | refine Wp.seq ?_ | refine Wp.reg ?_ | refine Wp.block ?_ | refine Wp.skip ?_ | refine Wp.ret ?_ | refine Wp.exit ?_ | refine Wp.label ?_ | refine Wp.condG ?_) | simp (disch := omega) only [↓RP, RQ, TS, TR, ↓reduceIte, Nat.reduceEqDiff, Nat.reduceLT, Nat.reduceLeDiff, Int.reduceLT, Int.reduceLE, Int.reduceEq, Int.reduceAdd, Int.reduceSub, Int.reduceNeg, Int.reduceToNat, Nat.reduceAdd, Nat.reduceMul, Nat.reduceSub, reduceCtorEq, RC, Int.cast_ofNat_Int, hn, g2, g3, g10, g11, g12]
    refine hS.eAppend 3 rfl (hS.rd 5 rfl) tP25 (by simp only [eg_length, tE, List.length_map, List.length_take, List.length_cons, List.length_nil]; omega) fun w' H8 hS => ?_
    have hw := (hS.rd 3 rfl).cells
    repeat first | (with_reducible first | refine Wp.seq ?_ | refine Wp.reg ?_ | refine Wp.block ?_ | refine Wp.skip ?_ | refine Wp.ret ?_ | refine Wp.exit ?_ | refine Wp.label ?_ | refine Wp.condG ?_) | simp (disch := omega) only [↓RP, RQ, TS, TR, ↓reduceIte, Nat.reduceEqDiff, Nat.reduceLT, Nat.reduceLeDiff, Int.reduceLT, Int.reduceLE, Int.reduceEq, Int.reduceAdd, Int.reduceSub, Int.reduceNeg, Int.reduceToNat, Nat.reduceAdd, Nat.reduceMul, Nat.reduceSub, reduceCtorEq, RC, Int.cast_ofNat_Int, hn, g2, g3, g10, g11, g12]
    refine hS.eStore 2 rfl [w'] (by rw [hw.1]) (by simp [hw.2.1]) tS25 (by simp) fun H9 hS => ?_
    simp only [List.nil_append, List.cons_append, List.append_nil, List.set_cons_zero, List.set_cons_succ, setMany_cons, setMany_nil, Nat.zero_add, Nat.mul_one, Nat.add_zero] at hS
    repeat first | (with_reducible first | refine Wp.seq ?_ | refine Wp.reg ?_ | refine Wp.block ?_ | refine Wp.skip ?_ | refine Wp.ret ?_ | refine Wp.exit ?_ | refine Wp.label ?_ | refine Wp.condG ?_) | simp (disch := omega) only [↓RP, RQ, TS, TR, ↓reduceIte, Nat.reduceEqDiff, Nat.reduceLT, Nat.reduceLeDiff, Int.reduceLT, Int.reduceLE, Int.reduceEq, Int.reduceAdd, Int.reduceSub, Int.reduceNeg, Int.reduceToNat, Nat.reduceAdd, Nat.reduceMul, Nat.reduceSub, reduceCtorEq, RC, Int.cast_ofNat_Int, hn, g2, g3, g10, g11, g12, wrap_fit]
    refine ⟨n - 1, by omega, i + 1, w', by omega, rfl, ?_⟩
    have e : tE (es.take (i + 1)) = tE (es.take i) ++ [((es.getD i (0, 0)).2, (es.getD i (0, 0)).1)] := by
      rw [take_succ_getD es i (0, 0) (by omega)]
      simp only [tE, List.map_append, List.map_cons, List.map_nil]
    rw [e, eg, List.flatMap_append]
    exact hS.sub (by simp)
  · have hw := (hS.rd 3 rfl).cells
    repeat first | (with_reducible first | refine Wp.seq ?_ | refine Wp.reg ?_ | refine Wp.block ?_ | refine Wp.skip ?_ | refine Wp.ret ?_ | refine Wp.exit ?_ | refine Wp.label ?_ | refine Wp.condG ?_) | simp (disch := omega) only [↓RP, RQ, TS, TR, ↓reduceIte, Nat.reduceEqDiff, Nat.reduceLT, Nat.reduceLeDiff, Int.reduceLT, Int.reduceLE, Int.reduceEq, Int.reduceAdd, Int.reduceSub, Int.reduceNeg, Int.reduceToNat, Nat.reduceAdd, Nat.reduceMul, Nat.reduceSub, reduceCtorEq, RC, Int.cast_ofNat_Int, hn, g2, g3, g10, g11, g12, hS.ldA 2 rfl]
    refine hS.eStore 1 rfl [I N, w] rfl (by simp [hw.2.1]; rfl) tS27 (by simp) fun H6 hS => ?_
    simp only [List.nil_append, List.cons_append, List.append_nil, List.set_cons_zero, List.set_cons_succ, setMany_cons, setMany_nil, Nat.zero_add, Nat.mul_one, Nat.add_zero] at hS
    repeat first | (with_reducible first | refine Wp.seq ?_ | refine Wp.reg ?_ | refine Wp.block ?_ | refine Wp.skip ?_ | refine Wp.ret ?_ | refine Wp.exit ?_ | refine Wp.label ?_ | refine Wp.condG ?_) | simp (disch := omega) only [↓RP, RQ, TS, TR, ↓reduceIte, Nat.reduceEqDiff, Nat.reduceLT, Nat.reduceLeDiff, Int.reduceLT, Int.reduceLE, Int.reduceEq, Int.reduceAdd, Int.reduceSub, Int.reduceNeg, Int.reduceToNat, Nat.reduceAdd, Nat.reduceMul, Nat.reduceSub, reduceCtorEq, RC, Int.cast_ofNat_Int, hn, g2, g3, g10, g11, g12, hS.ldA 1 rfl]
    refine ⟨w, rfl, ?_, hS.forget⟩
    have e : es.take i = es := List.take_of_length_le (by omega)
    rw [e] at hS
    exact hS.rd 3 rfl

theorem out_ok (N n : Nat) (v : Value) (es : List (Nat × Nat)) (he : es.length ≤ 1000) (Ag An : Nat) (f : Value) (J : Nat → Heap → Prop) (D : Heap → Prop) (h0 : J 0 H)
    (hg : ∀ j H1, J j H1 → Var H1 Ag 2 [I N, v] ∧ Var H1 An 1 [I n] ∧ Eg H1 v es)
    (hst : ∀ j H1 H2, J j H1 → St Try.prog H1 H2 [] → J j H2)
    (hskip : ∀ j H1, j < es.length → (es.getD j (0, 0)).1 ≠ n → J j H1 → J (j + 1) H1)
    (hf : ∀ j H1, j < es.length → (es.getD j (0, 0)).1 = n → J j H1 → callW Try.prog f [I j] H1 fun v H2 => ∃ b, v = .bool b ∧ (b = true → J (j + 1) H2) ∧ (b = false → D H2)) :
    FnS Try.prog 50 [f, ptr Ag 0 2, ptr An 0 1] H fun _ H' => J es.length H' ∨ D H' := by
  refine FnS.of_wp (fn := Try.f50) rfl rfl (by kernel_rfl) fun l hl => ?_
  have hn : l.length = 25 := by rw [hl]; rfl
  have g0 : get l 0 = f := by rw [hl]; rfl
  have g1 : get l 1 = ptr Ag 0 2 := by rw [hl]; rfl
  have g2 : get l 2 = ptr An 0 1 := by rw [hl]; rfl
  clear hl
  obtain ⟨hV, hU, hE⟩ := hg 0 H h0
  have hE1 : Sl2 H v _ _ es := hE
  repeat first | (with_reducible first | refine Wp.seq ?_ | refine Wp.reg ?_ | refine Wp.block ?_ | refine Wp.skip ?_ | refine Wp.ret ?_ | refine Wp.exit ?_ | refine Wp.label ?_ | refine Wp.condG ?_) | simp (disch := omega) only [↓RP, RQ, TS, TR, ↓reduceIte, Nat.reduceEqDiff, Nat.reduceLT, Nat.reduceLeDiff, Int.reduceLT, Int.reduceLE, Int.reduceEq, Int.reduceAdd, Int.reduceSub, Int.reduceNeg, Int.reduceToNat, Nat.reduceAdd, Nat.reduceMul, Nat.reduceSub, reduceCtorEq, RC, Int.cast_ofNat_Int, hn, g0, g1, g2, hV.ld, hE1.len]
  refine Wp.loopN (fun m l H' => l.length = 25 ∧ get l 0 = f ∧ get l 2 = ptr An 0 1 ∧ get l 7 = v ∧ get l 8 = I es.length ∧ ∃ i : Nat, m + i = es.length ∧ get l 9 = I i ∧ J i H') es.length ?_ ?_
  · repeat first | (with_reducible first | refine Wp.seq ?_ | refine Wp.reg ?_ | refine Wp.block ?_ | refine Wp.skip ?_ | refine Wp.ret ?_ | refine Wp.exit ?_ | refine Wp.label ?_ | refine Wp.condG ?_) | simp (disch := omega) only [↓RP, RQ, TS, TR, ↓reduceIte, Nat.reduceEqDiff, Nat.reduceLT, Nat.reduceLeDiff, Int.reduceLT, Int.reduceLE, Int.reduceEq, Int.reduceAdd, Int.reduceSub, Int.reduceNeg, Int.reduceToNat, Nat.reduceAdd, Nat.reduceMul, Nat.reduceSub, reduceCtorEq, RC, Int.cast_ofNat_Int, hn, g0, g1, g2]
    exact ⟨0, rfl, rfl, h0⟩
  clear hn g0 g1 g2 hV hU hE hE1 h0
  rintro m l H' ⟨hn, g0, g2, g7, g8, i, hi, g9, hJ⟩
  repeat first | (with_reducible first | refine Wp.seq ?_ | refine Wp.reg ?_ | refine Wp.block ?_ | refine Wp.skip ?_ | refine Wp.ret ?_ | refine Wp.exit ?_ | refine Wp.label ?_ | refine Wp.condG ?_) | simp (disch := omega) only [↓RP, RQ, TS, TR, ↓reduceIte, Nat.reduceEqDiff, Nat.reduceLT, Nat.reduceLeDiff, Int.reduceLT, Int.reduceLE, Int.reduceEq, Int.reduceAdd, Int.reduceSub, Int.reduceNeg, Int.reduceToNat, Nat.reduceAdd, Nat.reduceMul, Nat.reduceSub, reduceCtorEq, RC, Int.cast_ofNat_Int, hn, g0, g2, g7, g8, g9]
  refine condW_split (fun h => ?_) (fun h => ?_)
  · obtain ⟨hV, hU, hE⟩ := hg i H' hJ
    have hE1 : Sl2 H' v _ _ es := hE
    repeat first | (with_reducible first | refine Wp.seq ?_ | refine Wp.reg ?_ | refine Wp.block ?_ | refine Wp.skip ?_ | refine Wp.ret ?_ | refine Wp.exit ?_ | refine Wp.label ?_ | refine Wp.condG ?_) | simp (disch := omega) only [↓RP, RQ, TS, TR, ↓reduceIte, Nat.reduceEqDiff, Nat.reduceLT, Nat.reduceLeDiff, Int.reduceLT, Int.reduceLE, Int.reduceEq, Int.reduceAdd, Int.reduceSub, Int.reduceNeg, Int.reduceToNat, Nat.reduceAdd, Nat.reduceMul, Nat.reduceSub, reduceCtorEq, RC, Int.cast_ofNat_Int, hn, g0, g2, g7, g8, g9, hE1.idx, hE1.ldA (0, 0)]
    refine (St.refl _ H').eNew 2 [I 0, I 0] rfl rfl rfl tS48 fun C H5 hS => ?_
    repeat first | (with_reducible first | refine Wp.seq ?_ | refine Wp.reg ?_ | refine Wp.block ?_ | refine Wp.skip ?_ | refine Wp.ret ?_ | refine Wp.exit ?_ | refine Wp.label ?_ | refine Wp.condG ?_) | simp (disch := omega) only [↓RP, RQ, TS, TR, ↓reduceIte, Nat.reduceEqDiff, Nat.reduceLT, Nat.reduceLeDiff, Int.reduceLT, Int.reduceLE, Int.reduceEq, Int.reduceAdd, Int.reduceSub, Int.reduceNeg, Int.reduceToNat, Nat.reduceAdd, Nat.reduceMul, Nat.reduceSub, reduceCtorEq, RC, Int.cast_ofNat_Int, hn, g0, g2, g7, g8, g9]
    refine hS.eStore 0 rfl [_, _] rfl rfl tS48 (by simp) fun H6 hS => ?_
    simp only [List.nil_append, List.cons_append, List.append_nil, List.set_cons_zero, List.set_cons_succ, setMany_cons, setMany_nil, Nat.zero_add, Nat.mul_one, Nat.add_zero] at hS
    have hU6 := hU.keep hS.keep
    have hJ6 := hst i H' H6 hJ hS.forget
    repeat first | (with_reducible first | refine Wp.seq ?_ | refine Wp.reg ?_ | refine Wp.block ?_ | refine Wp.skip ?_ | refine Wp.ret ?_ | refine Wp.exit ?_ | refine Wp.label ?_ | refine Wp.condG ?_) | simp (disch := omega) only [↓RP, RQ, TS, TR, ↓reduceIte, Nat.reduceEqDiff, Nat.reduceLT, Nat.reduceLeDiff, Int.reduceLT, Int.reduceLE, Int.reduceEq, Int.reduceAdd, Int.reduceSub, Int.reduceNeg, Int.reduceToNat, Nat.reduceAdd, Nat.reduceMul, Nat.reduceSub, reduceCtorEq, RC, Int.cast_ofNat_Int, hn, g0, g2, g7, g8, g9, hS.ld 0 rfl, hU6.ld]
    refine letG_split (fun h2 => ?_) (fun h2 => ?_)
    · repeat first | (with_reducible first | refine Wp.seq ?_ | refine Wp.reg ?_ | refine Wp.block ?_ | refine Wp.skip ?_ | refine Wp.ret ?_ | refine Wp.exit ?_ | refine Wp.label ?_ | refine Wp.condG ?_) | simp (disch := omega) only [↓RP, RQ, TS, TR, ↓reduceIte, Nat.reduceEqDiff, Nat.reduceLT, Nat.reduceLeDiff, Int.reduceLT, Int.reduceLE, Int.reduceEq, Int.reduceAdd, Int.reduceSub, Int.reduceNeg, Int.reduceToNat, Nat.reduceAdd, Nat.reduceMul, Nat.reduceSub, reduceCtorEq, RC, Int.cast_ofNat_Int, hn, g0, g2, g7, g8, g9, h2]
      refine callW_mono (hf i H6 (by omega) (by omega) hJ6) ?_
      rintro r H7 ⟨b, rfl, hb1, hb2⟩
      repeat first | (with_reducible first | refine Wp.seq ?_ | refine Wp.reg ?_ | refine Wp.block ?_ | refine Wp.skip ?_ | refine Wp.ret ?_ | refine Wp.exit ?_ | refine Wp.label ?_ | refine Wp.condG ?_) | simp (disch := omega) only [↓RP, RQ, TS, TR, ↓reduceIte, Nat.reduceEqDiff, Nat.reduceLT, Nat.reduceLeDiff, Int.reduceLT, Int.reduceLE, Int.reduceEq, Int.reduceAdd, Int.reduceSub, Int.reduceNeg, Int.reduceToNat, Nat.reduceAdd, Nat.reduceMul, Nat.reduceSub, reduceCtorEq, RC, Int.cast_ofNat_Int, hn, g0, g2, g7, g8, g9, h2]
      cases b with
      | true =>
        repeat first | (with_reducible first | refine Wp.seq ?_ | refine Wp.reg ?_ | refine Wp.block ?_ | refine Wp.skip ?_ | refine Wp.ret ?_ | refine Wp.exit ?_ | refine Wp.label ?_ | refine Wp.condG ?_) | simp (disch := omega) only [↓RP, RQ, TS, TR, ↓reduceIte, Nat.reduceEqDiff, Nat.reduceLT, Nat.reduceLeDiff, Int.reduceLT, Int.reduceLE, Int.reduceEq, Int.reduceAdd, Int.reduceSub, Int.reduceNeg, Int.reduceToNat, Nat.reduceAdd, Nat.reduceMul, Nat.reduceSub, reduceCtorEq, RC, Int.cast_ofNat_Int, hn, g0, g2, g7, g8, g9, h2, wrap_fit]
        exact ⟨m - 1, by omega, i + 1, by omega, rfl, hb1 rfl⟩
      | false =>
        repeat first | (with_reducible first | refine Wp.seq ?_ | refine Wp.reg ?_ | refine Wp.block ?_ | refine Wp.skip ?_ | refine Wp.ret ?_ | refine Wp.exit ?_ | refine Wp.label ?_ | refine Wp.condG ?_) | simp (disch := omega) only [↓RP, RQ, TS, TR, ↓reduceIte, Nat.reduceEqDiff, Nat.reduceLT, Nat.reduceLeDiff, Int.reduceLT, Int.reduceLE, Int.reduceEq, Int.reduceAdd, Int.reduceSub, Int.reduceNeg, Int.reduceToNat, Nat.reduceAdd, Nat.reduceMul, Nat.reduceSub, reduceCtorEq, RC, Int.cast_ofNat_Int, hn, g0, g2, g7, g8, g9, h2]
        exact .inr (hb2 rfl)
    · repeat first | (with_reducible first | refine Wp.seq ?_ | refine Wp.reg ?_ | refine Wp.block ?_ | refine Wp.skip ?_ | refine Wp.ret ?_ | refine Wp.exit ?_ | refine Wp.label ?_ | refine Wp.condG ?_) | simp (disch := omega) only [↓RP, RQ, TS, TR, ↓reduceIte, Nat.reduceEqDiff, Nat.reduceLT, Nat.reduceLeDiff, Int.reduceLT, Int.reduceLE, Int.reduceEq, Int.reduceAdd, Int.reduceSub, Int.reduceNeg, Int.reduceToNat, Nat.reduceAdd, Nat.reduceMul, Nat.reduceSub, reduceCtorEq, RC, Int.cast_ofNat_Int, hn, g0, g2, g7, g8, g9, h2, wrap_fit]
      exact ⟨m - 1, by omega, i + 1, by omega, rfl, hskip i H6 (by omega) (by omega) hJ6⟩
  · repeat first | (with_reducible first | refine Wp.seq ?_ | refine Wp.reg ?_ | refine Wp.block ?_ | refine Wp.skip ?_ | refine Wp.ret ?_ | refine Wp.exit ?_ | refine Wp.label ?_ | refine Wp.condG ?_) | simp (disch := omega) only [↓RP, RQ, TS, TR, ↓reduceIte, Nat.reduceEqDiff, Nat.reduceLT, Nat.reduceLeDiff, Int.reduceLT, Int.reduceLE, Int.reduceEq, Int.reduceAdd, Int.reduceSub, Int.reduceNeg, Int.reduceToNat, Nat.reduceAdd, Nat.reduceMul, Nat.reduceSub, reduceCtorEq, RC, Int.cast_ofNat_Int, hn, g0, g2, g7, g8, g9]
    have e : i = es.length := by omega
    subst e
    exact .inl hJ
end Go.Ds
/-
  Contracts: reached.
-/
namespace Go.Ds
open Go.Proofs Go.Plain
variable {H : Heap}

abbrev bls (l : List Bool) : List Value := l.map fun b : Bool => .bool b
/-- Rows of truths, one for each number. -/
def innerB (N : Nat) (ws : Nat → Value) (nx : Nat → List Bool) : List Ob := (List.range N).map fun n => ⟨ws n, 1, bls (nx n)⟩
theorem innerB_get (N : Nat) (ws : Nat → Value) (nx : Nat → List Bool) (j : Nat) (hj : j < N) : (innerB N ws nx)[j]? = some ⟨ws j, 0 + 1, bls (nx j)⟩ := by simp [innerB, hj]
theorem innerB_set (N : Nat) (ws : Nat → Value) (nx : Nat → List Bool) (j : Nat) (w : Value) (l : List Bool) : (innerB N ws nx).set j ⟨w, 1, bls l⟩ = innerB N (upd ws j w) (upd nx j l) := by
  unfold innerB
  rw [map_upd]
  congr 1
  funext n
  simp only [upd]
  split <;> rfl
theorem St.nilsB {P : Program} {H0 : Base} (f : Nat → Value) (g : Nat → List Bool) (hf : ∀ n, f n = .slice none 0 0) (hg : ∀ n, g n = []) {os : List Ob} (hS : St P H0 H os) : ∀ N, St P H0 H (os ++ innerB N f g) := by
  intro N
  induction N with
  | zero => simpa [innerB] using hS
  | succ N ih =>
    have := ih.nil 0
    unfold innerB at this ⊢
    rw [List.range_succ, List.map_append, ← List.append_assoc]
    simpa [hf, hg] using this

/-- Which have a distance. -/
def rb (d : List Int) : List Bool := d.map fun x => decide (0 ≤ x)
theorem rb_succ (d : List Int) (k : Nat) (hk : k < d.length) : rb (d.take (k + 1)) = rb (d.take k) ++ [decide (0 ≤ d.getD k 0)] := by
  unfold rb
  rw [take_succ_getD d k 0 hk, List.map_append]
  rfl
theorem rb_length (d : List Int) : (rb d).length = d.length := List.length_map _

theorem reached_ok (N : Nat) (v : Value) (es : List (Nat × Nat)) (hv : Eg H v es) (hN : N ≤ 200) (he : es.length ≤ 1000) (hval : ∀ e ∈ es, e.1 < N ∧ e.2 < N) :
    Fn Try.prog 43 [.agg #[I N, v]] H fun r H' => ∃ (ws : Nat → Value) (ds : Nat → List Int), (∀ i, i < N → IsD es N i (ds i)) ∧ St Try.prog H H' (⟨r, 1, (List.range N).map ws⟩ :: innerB N ws fun i => rb (ds i)) := by
  have hrl : (List.range N).length = N := List.length_range
  have hrep : ∀ (N : Nat) (z : Value), List.replicate N z = (List.range N).map (fun _ => z) := fun N z => by
    rw [List.map_const', List.length_range]
  refine Fn.of_wp (fn := Try.f43) rfl rfl (by kernel_rfl) fun l hl => ?_
  have hn : l.length = 37 := by rw [hl]; rfl
  have g0 : get l 0 = .agg #[I N, v] := by rw [hl]; rfl
  clear hl
  repeat first | (with_reducible first | refine Wp.seq ?_ | refine Wp.reg ?_ | refine Wp.block ?_ | refine Wp.skip ?_ | refine Wp.ret ?_ | refine Wp.exit ?_ | refine Wp.label ?_ | refine Wp.condG ?_) | simp (disch := omega) only [↓RP, RQ, TS, TR, ↓reduceIte, Nat.reduceEqDiff, Nat.reduceLT, Nat.reduceLeDiff, Int.reduceLT, Int.reduceLE, Int.reduceEq, Int.reduceAdd, Int.reduceSub, Int.reduceNeg, Int.reduceToNat, Nat.reduceAdd, Nat.reduceMul, Nat.reduceSub, reduceCtorEq, RC, Int.cast_ofNat_Int, hn, g0]
  refine (St.refl _ H).eNew 2 [I N, v] rfl rfl (by simp [hv.one]; rfl) tS27 fun A H1 hS => ?_
  repeat first | (with_reducible first | refine Wp.seq ?_ | refine Wp.reg ?_ | refine Wp.block ?_ | refine Wp.skip ?_ | refine Wp.ret ?_ | refine Wp.exit ?_ | refine Wp.label ?_ | refine Wp.condG ?_) | simp (disch := omega) only [↓RP, RQ, TS, TR, ↓reduceIte, Nat.reduceEqDiff, Nat.reduceLT, Nat.reduceLeDiff, Int.reduceLT, Int.reduceLE, Int.reduceEq, Int.reduceAdd, Int.reduceSub, Int.reduceNeg, Int.reduceToNat, Nat.reduceAdd, Nat.reduceMul, Nat.reduceSub, reduceCtorEq, RC, Int.cast_ofNat_Int, hn, g0, hS.ld 0 rfl]
  refine hS.eMake1 N tM71 (by omega) fun w H2 hS => ?_
  have hS := hS.nilsB (fun _ => .slice none 0 0) (fun _ => []) (fun _ => rfl) (fun _ => rfl) N
  rw [hrep N (.slice none 0 0)] at hS
  simp only [List.nil_append, List.cons_append, List.append_nil, List.set_cons_zero, List.set_cons_succ, setMany_cons, setMany_nil, Nat.zero_add, Nat.mul_one, Nat.add_zero] at hS
  have ho : Sl1 H2 w (fun _ => .slice none 0 0) (List.range N) := hS.rd 1 rfl
  repeat first | (with_reducible first | refine Wp.seq ?_ | refine Wp.reg ?_ | refine Wp.block ?_ | refine Wp.skip ?_ | refine Wp.ret ?_ | refine Wp.exit ?_ | refine Wp.label ?_ | refine Wp.condG ?_) | simp (disch := omega) only [↓RP, RQ, TS, TR, ↓reduceIte, Nat.reduceEqDiff, Nat.reduceLT, Nat.reduceLeDiff, Int.reduceLT, Int.reduceLE, Int.reduceEq, Int.reduceAdd, Int.reduceSub, Int.reduceNeg, Int.reduceToNat, Nat.reduceAdd, Nat.reduceMul, Nat.reduceSub, reduceCtorEq, RC, Int.cast_ofNat_Int, hn, g0, ho.len]
  refine Wp.loopN (fun n l H' => l.length = 37 ∧ get l 1 = ptr A 0 2 ∧ get l 3 = w ∧ get l 11 = I N ∧ ∃ (i : Nat) (ws : Nat → Value) (ds : Nat → List Int), n + i = N ∧ get l 12 = I i ∧ (∀ j, j < i → IsD es N j (ds j)) ∧ (∀ j, i ≤ j → ds j = []) ∧
    St Try.prog H H' (⟨ptr A 0 2, 0, [I N, v]⟩ :: ⟨w, 1, (List.range N).map ws⟩ :: innerB N ws fun i => rb (ds i))) N ?_ ?_
  · repeat first | (with_reducible first | refine Wp.seq ?_ | refine Wp.reg ?_ | refine Wp.block ?_ | refine Wp.skip ?_ | refine Wp.ret ?_ | refine Wp.exit ?_ | refine Wp.label ?_ | refine Wp.condG ?_) | simp (disch := omega) only [↓RP, RQ, TS, TR, ↓reduceIte, Nat.reduceEqDiff, Nat.reduceLT, Nat.reduceLeDiff, Int.reduceLT, Int.reduceLE, Int.reduceEq, Int.reduceAdd, Int.reduceSub, Int.reduceNeg, Int.reduceToNat, Nat.reduceAdd, Nat.reduceMul, Nat.reduceSub, reduceCtorEq, RC, Int.cast_ofNat_Int, hn, g0, hrl]
    exact ⟨0, _, fun _ => [], rfl, rfl, fun j hj => absurd hj (Nat.not_lt_zero _), fun _ _ => rfl, hS⟩
  clear hS hn g0 ho
  rintro n l H' ⟨hn, g1, g3, g11, i, ws, ds, hi, g12, hds, hnil, hS⟩
  repeat first | (with_reducible first | refine Wp.seq ?_ | refine Wp.reg ?_ | refine Wp.block ?_ | refine Wp.skip ?_ | refine Wp.ret ?_ | refine Wp.exit ?_ | refine Wp.label ?_ | refine Wp.condG ?_) | simp (disch := omega) only [↓RP, RQ, TS, TR, ↓reduceIte, Nat.reduceEqDiff, Nat.reduceLT, Nat.reduceLeDiff, Int.reduceLT, Int.reduceLE, Int.reduceEq, Int.reduceAdd, Int.reduceSub, Int.reduceNeg, Int.reduceToNat, Nat.reduceAdd, Nat.reduceMul, Nat.reduceSub, reduceCtorEq, RC, Int.cast_ofNat_Int, hn, g1, g3, g11, g12]
  refine condW_split (fun h => ?_) (fun h => ?_)
  · have hiN : i < N := by omega
    repeat first | (with_reducible first | refine Wp.seq ?_ | refine Wp.reg ?_ | refine Wp.block ?_ | refine Wp.skip ?_ | refine Wp.ret ?_ | refine Wp.exit ?_ | refine Wp.label ?_ | refine Wp.condG ?_) | simp (disch := omega) only [↓RP, RQ, TS, TR, ↓reduceIte, Nat.reduceEqDiff, Nat.reduceLT, Nat.reduceLeDiff, Int.reduceLT, Int.reduceLE, Int.reduceEq, Int.reduceAdd, Int.reduceSub, Int.reduceNeg, Int.reduceToNat, Nat.reduceAdd, Nat.reduceMul, Nat.reduceSub, reduceCtorEq, RC, Int.cast_ofNat_Int, hn, g1, g3, g11, g12, hS.ldA 0 rfl]
    refine callFW_of (distances_ok N v es (hS.base hv) hN he hval i 0 hiN (Nat.zero_le _)) ?_
    rintro dv H3 ⟨d, hd, hdN, hS3⟩
    rw [List.drop_zero] at hd
    have hS := (hS.trans hS3).front
    have hdl := hd.len
    have hdv : Sl1 H3 dv (.int .i64) d := hS.rd 0 rfl
    have hS := hS.sub (os' := ⟨dv, 1, d.map (.int .i64)⟩ :: ⟨ptr A 0 2, 0, [I N, v]⟩ :: ⟨w, 1, (List.range N).map ws⟩ :: innerB N ws (upd (fun i => rb (ds i)) i (rb (d.take 0)))) (by
      have e : upd (fun i => rb (ds i)) i (rb (d.take 0)) = fun i => rb (ds i) := by
        funext j
        unfold upd
        split
        · rename_i hj; rw [hj, hnil i (Nat.le_refl _)]; rfl
        · rfl
      rw [e]
      exact List.Sublist.refl _)
    repeat first | (with_reducible first | refine Wp.seq ?_ | refine Wp.reg ?_ | refine Wp.block ?_ | refine Wp.skip ?_ | refine Wp.ret ?_ | refine Wp.exit ?_ | refine Wp.label ?_ | refine Wp.condG ?_) | simp (disch := omega) only [↓RP, RQ, TS, TR, ↓reduceIte, Nat.reduceEqDiff, Nat.reduceLT, Nat.reduceLeDiff, Int.reduceLT, Int.reduceLE, Int.reduceEq, Int.reduceAdd, Int.reduceSub, Int.reduceNeg, Int.reduceToNat, Nat.reduceAdd, Nat.reduceMul, Nat.reduceSub, reduceCtorEq, RC, Int.cast_ofNat_Int, hn, g1, g3, g11, g12, hdv.len]
    clear hdv
    refine Wp.loopN (fun m l H' => l.length = 37 ∧ get l 1 = ptr A 0 2 ∧ get l 3 = w ∧ get l 4 = I i ∧ get l 11 = I N ∧ get l 12 = I i ∧ get l 17 = dv ∧ get l 18 = I d.length ∧ ∃ (k : Nat) (ws : Nat → Value), m + k = N ∧ get l 19 = I k ∧
      St Try.prog H H' (⟨dv, 1, d.map (.int .i64)⟩ :: ⟨ptr A 0 2, 0, [I N, v]⟩ :: ⟨w, 1, (List.range N).map ws⟩ :: innerB N ws (upd (fun i => rb (ds i)) i (rb (d.take k))))) N ?_ ?_
    · repeat first | (with_reducible first | refine Wp.seq ?_ | refine Wp.reg ?_ | refine Wp.block ?_ | refine Wp.skip ?_ | refine Wp.ret ?_ | refine Wp.exit ?_ | refine Wp.label ?_ | refine Wp.condG ?_) | simp (disch := omega) only [↓RP, RQ, TS, TR, ↓reduceIte, Nat.reduceEqDiff, Nat.reduceLT, Nat.reduceLeDiff, Int.reduceLT, Int.reduceLE, Int.reduceEq, Int.reduceAdd, Int.reduceSub, Int.reduceNeg, Int.reduceToNat, Nat.reduceAdd, Nat.reduceMul, Nat.reduceSub, reduceCtorEq, RC, Int.cast_ofNat_Int, hn, g1, g3, g11, g12]
      exact ⟨0, ws, rfl, rfl, hS⟩
    clear hS hS3 hn g1 g3 g11 g12
    rintro m l H' ⟨hn, g1, g3, g4, g11, g12, g17, g18, k, ws, hk, g19, hS⟩
    have hdv : Sl1 H' dv (.int .i64) d := hS.rd 0 rfl
    have ho : Sl1 H' w ws (List.range N) := hS.rd 2 rfl
    repeat first | (with_reducible first | refine Wp.seq ?_ | refine Wp.reg ?_ | refine Wp.block ?_ | refine Wp.skip ?_ | refine Wp.ret ?_ | refine Wp.exit ?_ | refine Wp.label ?_ | refine Wp.condG ?_) | simp (disch := omega) only [↓RP, RQ, TS, TR, ↓reduceIte, Nat.reduceEqDiff, Nat.reduceLT, Nat.reduceLeDiff, Int.reduceLT, Int.reduceLE, Int.reduceEq, Int.reduceAdd, Int.reduceSub, Int.reduceNeg, Int.reduceToNat, Nat.reduceAdd, Nat.reduceMul, Nat.reduceSub, reduceCtorEq, RC, Int.cast_ofNat_Int, hn, g1, g3, g4, g11, g12, g17, g18, g19]
    refine condW_split (fun h2 => ?_) (fun h2 => ?_)
    · have hkN : k < N := by omega
      repeat first | (with_reducible first | refine Wp.seq ?_ | refine Wp.reg ?_ | refine Wp.block ?_ | refine Wp.skip ?_ | refine Wp.ret ?_ | refine Wp.exit ?_ | refine Wp.label ?_ | refine Wp.condG ?_) | simp (disch := omega) only [↓RP, RQ, TS, TR, ↓reduceIte, Nat.reduceEqDiff, Nat.reduceLT, Nat.reduceLeDiff, Int.reduceLT, Int.reduceLE, Int.reduceEq, Int.reduceAdd, Int.reduceSub, Int.reduceNeg, Int.reduceToNat, Nat.reduceAdd, Nat.reduceMul, Nat.reduceSub, reduceCtorEq, RC, Int.cast_ofNat_Int, hn, g1, g3, g4, g11, g12, g17, g18, g19, hdv.idx, hdv.ld 0, ho.idx, ho.ld 0, getD_range]
      refine hS.eSlice [.bool (decide (0 ≤ d.getD k 0))] tP69 tF69 rfl rfl (by simp [Value.cells]) rfl rfl (by decide) (by decide) fun x H4 hS => ?_
      have hS := hS.front
      repeat first | (with_reducible first | refine Wp.seq ?_ | refine Wp.reg ?_ | refine Wp.block ?_ | refine Wp.skip ?_ | refine Wp.ret ?_ | refine Wp.exit ?_ | refine Wp.label ?_ | refine Wp.condG ?_) | simp (disch := omega) only [↓RP, RQ, TS, TR, ↓reduceIte, Nat.reduceEqDiff, Nat.reduceLT, Nat.reduceLeDiff, Int.reduceLT, Int.reduceLE, Int.reduceEq, Int.reduceAdd, Int.reduceSub, Int.reduceNeg, Int.reduceToNat, Nat.reduceAdd, Nat.reduceMul, Nat.reduceSub, reduceCtorEq, RC, Int.cast_ofNat_Int, hn, g1, g3, g4, g11, g12, g17, g18, g19]
      refine hS.eAppend (i + 4) (innerB_get N ws _ _ hiN) (hS.rd 0 rfl) tP69 ?_ fun w' H5 hS => ?_
      · rw [show upd (fun i => rb (ds i)) i (rb (d.take k)) i = rb (d.take k) from if_pos rfl]
        simp only [bls, List.length_map, rb_length, List.length_take, List.length_cons, List.length_nil]
        omega
      simp only [List.nil_append, List.cons_append, List.append_nil, List.set_cons_zero, List.set_cons_succ, setMany_cons, setMany_nil, Nat.zero_add, Nat.mul_one, Nat.add_zero] at hS
      rw [show upd (fun i => rb (ds i)) i (rb (d.take k)) i = rb (d.take k) from if_pos rfl, show bls (rb (d.take k)) ++ [Value.bool (decide (0 ≤ d.getD k 0))] = bls (rb (d.take (k + 1))) from by rw [rb_succ d k (by omega)]; simp [bls], innerB_set] at hS
      have ho8 : Sl1 H5 w ws (List.range N) := hS.rd 3 rfl
      have hw' := (hS.rd (i + 4) (innerB_get N _ _ _ hiN)).cells
      rw [show upd ws i w' i = w' from if_pos rfl] at hw'
      repeat first | (with_reducible first | refine Wp.seq ?_ | refine Wp.reg ?_ | refine Wp.block ?_ | refine Wp.skip ?_ | refine Wp.ret ?_ | refine Wp.exit ?_ | refine Wp.label ?_ | refine Wp.condG ?_) | simp (disch := omega) only [↓RP, RQ, TS, TR, ↓reduceIte, Nat.reduceEqDiff, Nat.reduceLT, Nat.reduceLeDiff, Int.reduceLT, Int.reduceLE, Int.reduceEq, Int.reduceAdd, Int.reduceSub, Int.reduceNeg, Int.reduceToNat, Nat.reduceAdd, Nat.reduceMul, Nat.reduceSub, reduceCtorEq, RC, Int.cast_ofNat_Int, hn, g1, g3, g4, g11, g12, g17, g18, g19, ho8.idx]
      refine hS.eStoreE 3 rfl [w'] (by rw [hw'.1]) (by simp [hw'.2.1]) tS69 (by simp) (by simp only [List.length_map, List.length_cons, List.length_nil]; omega) fun H6 hS => ?_
      simp only [List.nil_append, List.cons_append, List.append_nil, List.set_cons_zero, List.set_cons_succ, setMany_cons, setMany_nil, Nat.zero_add, Nat.mul_one, Nat.add_zero] at hS
      rw [map_upd] at hS
      repeat first | (with_reducible first | refine Wp.seq ?_ | refine Wp.reg ?_ | refine Wp.block ?_ | refine Wp.skip ?_ | refine Wp.ret ?_ | refine Wp.exit ?_ | refine Wp.label ?_ | refine Wp.condG ?_) | simp (disch := omega) only [↓RP, RQ, TS, TR, ↓reduceIte, Nat.reduceEqDiff, Nat.reduceLT, Nat.reduceLeDiff, Int.reduceLT, Int.reduceLE, Int.reduceEq, Int.reduceAdd, Int.reduceSub, Int.reduceNeg, Int.reduceToNat, Nat.reduceAdd, Nat.reduceMul, Nat.reduceSub, reduceCtorEq, RC, Int.cast_ofNat_Int, hn, g1, g3, g4, g11, g12, g17, g18, g19, wrap_fit]
      refine ⟨m - 1, by omega, k + 1, upd ws i w', by omega, rfl, ?_⟩
      have hS := hS.tail
      have e : upd (upd (fun i => rb (ds i)) i (rb (d.take k))) i (rb (d.take (k + 1))) = upd (fun i => rb (ds i)) i (rb (d.take (k + 1))) := by
        funext j
        unfold upd
        split <;> rfl
      rw [e] at hS
      exact hS
    · have hke : k = N := by omega
      subst hke
      repeat first | (with_reducible first | refine Wp.seq ?_ | refine Wp.reg ?_ | refine Wp.block ?_ | refine Wp.skip ?_ | refine Wp.ret ?_ | refine Wp.exit ?_ | refine Wp.label ?_ | refine Wp.condG ?_) | simp (disch := omega) only [↓RP, RQ, TS, TR, ↓reduceIte, Nat.reduceEqDiff, Nat.reduceLT, Nat.reduceLeDiff, Int.reduceLT, Int.reduceLE, Int.reduceEq, Int.reduceAdd, Int.reduceSub, Int.reduceNeg, Int.reduceToNat, Nat.reduceAdd, Nat.reduceMul, Nat.reduceSub, reduceCtorEq, RC, Int.cast_ofNat_Int, hn, g1, g3, g4, g11, g12, g17, g18, g19, wrap_fit]
      refine ⟨n - 1, by omega, i + 1, ws, upd ds i d, by omega, rfl, fun j hj => ?_, fun j hj => ?_, ?_⟩
      · unfold upd
        split
        · rename_i e; rw [e]; exact hd
        · exact hds j (by omega)
      · unfold upd
        rw [if_neg (by omega)]
        exact hnil j (by omega)
      · have hS := hS.tail
        rw [List.take_of_length_le (by omega)] at hS
        have e : upd (fun i => rb (ds i)) i (rb d) = fun j => rb (upd ds i d j) := by
          funext j
          unfold upd
          split <;> rfl
        rw [e] at hS
        exact hS
  · have e : i = N := by omega
    subst e
    repeat first | (with_reducible first | refine Wp.seq ?_ | refine Wp.reg ?_ | refine Wp.block ?_ | refine Wp.skip ?_ | refine Wp.ret ?_ | refine Wp.exit ?_ | refine Wp.label ?_ | refine Wp.condG ?_) | simp (disch := omega) only [↓RP, RQ, TS, TR, ↓reduceIte, Nat.reduceEqDiff, Nat.reduceLT, Nat.reduceLeDiff, Int.reduceLT, Int.reduceLE, Int.reduceEq, Int.reduceAdd, Int.reduceSub, Int.reduceNeg, Int.reduceToNat, Nat.reduceAdd, Nat.reduceMul, Nat.reduceSub, reduceCtorEq, RC, Int.cast_ofNat_Int, hn, g1, g3, g11, g12]
    exact ⟨ws, ds, hds, hS.tail⟩
end Go.Ds
/-
  Contracts: walk.
-/
namespace Go.Ds
open Go.Proofs Go.Plain
variable {H : Heap}

theorem Wp.of_eq {P : Program} {c c' : Code} {l l' : List Value} {Q : Out} (hc : c' = c) (hl : l' = l) (h : Wp P c l H Q) : Wp P c' l' H Q := by
  subst hc hl; exact h

theorem Wp.slots {P : Program} {c : Code} {l : List Value} {Q : Out} (h : ∀ l', l' = l → Wp P c l' H Q) : Wp P c l H Q := h l rfl

theorem Wp.rangeR {P : Program} {t : Tmp} {ps : Array Tmp} {assign body : Code} {l : List Value} {Q : Out} {k : FuncId} {captured : List Value} (hg : get l t = .func (.func k) #[] captured.toArray)
    (h : ∀ r : Loop, r.state = .ready → r.pending = none → r.tmps = l.toArray → r.params = ps → r.assign = assign → r.body = body →
      FnS P k ([.func (.yield H.length) #[] #[]] ++ captured) (H.cons (.loop r)) (afterQ P l H.length Q)) : Wp P (.rangeFunc (.tmp t) ps assign body) l H Q :=
  Wp.range (first := []) rfl hg (h (loop0 l ps assign body) rfl rfl rfl rfl rfl rfl)

theorem out1_ok (N n : Nat) (v : Value) (hv : oneCell v = true) : Fn Try.prog 41 [.agg #[I N, v], I n] H fun r H' => ∃ Ag An, r = .func (.func 50) #[] #[ptr Ag 0 2, ptr An 0 1] ∧ St Try.prog H H' [⟨ptr Ag 0 2, 0, [I N, v]⟩, ⟨ptr An 0 1, 0, [I n]⟩] := by
  refine Fn.of_wp (fn := Try.f41) rfl rfl (by kernel_rfl) fun l hl => ?_
  have hn : l.length = 6 := by rw [hl]; rfl
  have g0 : get l 0 = .agg #[I N, v] := by rw [hl]; rfl
  have g1 : get l 1 = I n := by rw [hl]; rfl
  clear hl
  repeat first | (with_reducible first | refine Wp.seq ?_ | refine Wp.reg ?_ | refine Wp.block ?_ | refine Wp.skip ?_ | refine Wp.ret ?_ | refine Wp.exit ?_ | refine Wp.label ?_ | refine Wp.condG ?_) | simp (disch := omega) only [↓RP, RQ, TS, TR, ↓reduceIte, Nat.reduceEqDiff, Nat.reduceLT, Nat.reduceLeDiff, Int.reduceLT, Int.reduceLE, Int.reduceEq, Int.reduceAdd, Int.reduceSub, Int.reduceNeg, Int.reduceToNat, Nat.reduceAdd, Nat.reduceMul, Nat.reduceSub, reduceCtorEq, RC, Int.cast_ofNat_Int, hn, g0, g1]
  refine (St.refl _ H).eNew 2 [I N, v] rfl rfl (by simp [hv]; rfl) tS27 fun A H1 hS => ?_
  repeat first | (with_reducible first | refine Wp.seq ?_ | refine Wp.reg ?_ | refine Wp.block ?_ | refine Wp.skip ?_ | refine Wp.ret ?_ | refine Wp.exit ?_ | refine Wp.label ?_ | refine Wp.condG ?_) | simp (disch := omega) only [↓RP, RQ, TS, TR, ↓reduceIte, Nat.reduceEqDiff, Nat.reduceLT, Nat.reduceLeDiff, Int.reduceLT, Int.reduceLE, Int.reduceEq, Int.reduceAdd, Int.reduceSub, Int.reduceNeg, Int.reduceToNat, Nat.reduceAdd, Nat.reduceMul, Nat.reduceSub, reduceCtorEq, RC, Int.cast_ofNat_Int, hn, g0, g1]
  refine hS.eNew 1 [I n] rfl rfl rfl tS3 fun B H2 hS => ?_
  repeat first | (with_reducible first | refine Wp.seq ?_ | refine Wp.reg ?_ | refine Wp.block ?_ | refine Wp.skip ?_ | refine Wp.ret ?_ | refine Wp.exit ?_ | refine Wp.label ?_ | refine Wp.condG ?_) | simp (disch := omega) only [↓RP, RQ, TS, TR, ↓reduceIte, Nat.reduceEqDiff, Nat.reduceLT, Nat.reduceLeDiff, Int.reduceLT, Int.reduceLE, Int.reduceEq, Int.reduceAdd, Int.reduceSub, Int.reduceNeg, Int.reduceToNat, Nat.reduceAdd, Nat.reduceMul, Nat.reduceSub, reduceCtorEq, RC, Int.cast_ofNat_Int, hn, g0, g1]
  exact ⟨A, B, rfl, hS⟩

theorem walk_ok (N : Nat) (v : Value) (es : List (Nat × Nat)) (hv : Eg H v es) (hN : N ≤ 200) (he : es.length ≤ 1000) (hval : ∀ e ∈ es, e.1 < N ∧ e.2 < N) (s t first : Nat) (hs : s < N) (ht : t < N) (hf : first ≤ es.length) :
    Fn Try.prog 38 [.agg #[I N, v], I s, I t, I first] H fun r H' => ∃ (d : List Int) (w : Value), IsD (tE (es.drop first)) N t d ∧ (∀ k, k < N → d.getD k 0 ≤ N) ∧ r = .tuple #[w, .bool (decide (0 ≤ d.getD s 0))] ∧
      St Try.prog H H' [⟨w, 1, nts (if 0 ≤ d.getD s 0 then pF es first d (d.getD s 0).toNat s else [])⟩] := by
  refine Fn.of_wp (fn := Try.f38) rfl rfl (by kernel_rfl) fun l hl => ?_
  have hn : l.length = 63 := by rw [hl]; rfl
  have g0 : get l 0 = .agg #[I N, v] := by rw [hl]; rfl
  have g1 : get l 1 = I s := by rw [hl]; rfl
  have g2 : get l 2 = I t := by rw [hl]; rfl
  have g3 : get l 3 = I first := by rw [hl]; rfl
  clear hl
  repeat first | (with_reducible first | refine Wp.seq ?_ | refine Wp.reg ?_ | refine Wp.block ?_ | refine Wp.skip ?_ | refine Wp.ret ?_ | refine Wp.exit ?_ | refine Wp.label ?_ | refine Wp.condG ?_) | simp (disch := omega) only [↓RP, RQ, TS, TR, ↓reduceIte, Nat.reduceEqDiff, Nat.reduceLT, Nat.reduceLeDiff, Int.reduceLT, Int.reduceLE, Int.reduceEq, Int.reduceAdd, Int.reduceSub, Int.reduceNeg, Int.reduceToNat, Nat.reduceAdd, Nat.reduceMul, Nat.reduceSub, reduceCtorEq, RC, Int.cast_ofNat_Int, hn, g0, g1, g2, g3]
  refine (St.refl _ H).eNew 2 [I N, v] rfl rfl (by simp [hv.one]; rfl) tS27 fun A H1 hS => ?_
  repeat first | (with_reducible first | refine Wp.seq ?_ | refine Wp.reg ?_ | refine Wp.block ?_ | refine Wp.skip ?_ | refine Wp.ret ?_ | refine Wp.exit ?_ | refine Wp.label ?_ | refine Wp.condG ?_) | simp (disch := omega) only [↓RP, RQ, TS, TR, ↓reduceIte, Nat.reduceEqDiff, Nat.reduceLT, Nat.reduceLeDiff, Int.reduceLT, Int.reduceLE, Int.reduceEq, Int.reduceAdd, Int.reduceSub, Int.reduceNeg, Int.reduceToNat, Nat.reduceAdd, Nat.reduceMul, Nat.reduceSub, reduceCtorEq, RC, Int.cast_ofNat_Int, hn, g0, g1, g2, g3]
  refine hS.eNew 1 [I first] rfl rfl rfl tS3 fun F H2 hS2 => ?_
  simp only [List.nil_append, List.cons_append, List.append_nil, List.set_cons_zero, List.set_cons_succ, setMany_cons, setMany_nil, Nat.zero_add, Nat.mul_one, Nat.add_zero] at hS2
  repeat first | (with_reducible first | refine Wp.seq ?_ | refine Wp.reg ?_ | refine Wp.block ?_ | refine Wp.skip ?_ | refine Wp.ret ?_ | refine Wp.exit ?_ | refine Wp.label ?_ | refine Wp.condG ?_) | simp (disch := omega) only [↓RP, RQ, TS, TR, ↓reduceIte, Nat.reduceEqDiff, Nat.reduceLT, Nat.reduceLeDiff, Int.reduceLT, Int.reduceLE, Int.reduceEq, Int.reduceAdd, Int.reduceSub, Int.reduceNeg, Int.reduceToNat, Nat.reduceAdd, Nat.reduceMul, Nat.reduceSub, reduceCtorEq, RC, Int.cast_ofNat_Int, hn, g0, g1, g2, g3]
  refine Wp.drwT hmix [(3, 0)] (by kernel_rfl) (by kernel_rfl) ?_
  repeat first | (with_reducible first | refine Wp.seq ?_ | refine Wp.reg ?_ | refine Wp.block ?_ | refine Wp.skip ?_ | refine Wp.ret ?_ | refine Wp.exit ?_ | refine Wp.label ?_ | refine Wp.condG ?_) | simp (disch := omega) only [↓RP, RQ, TS, TR, ↓reduceIte, Nat.reduceEqDiff, Nat.reduceLT, Nat.reduceLeDiff, Int.reduceLT, Int.reduceLE, Int.reduceEq, Int.reduceAdd, Int.reduceSub, Int.reduceNeg, Int.reduceToNat, Nat.reduceAdd, Nat.reduceMul, Nat.reduceSub, reduceCtorEq, RC, Int.cast_ofNat_Int, hn, g0, g1, g2, g3, hS2.ldA 0 rfl]
  refine callFW_of (turned_ok N v es (hS2.base hv) he) ?_
  rintro r H3 ⟨tv, rfl, hT, hS3⟩
  have hS := hS2.trans hS3
  simp only [List.nil_append, List.cons_append, List.append_nil, List.set_cons_zero, List.set_cons_succ, setMany_cons, setMany_nil, Nat.zero_add, Nat.mul_one, Nat.add_zero] at hS
  repeat first | (with_reducible first | refine Wp.seq ?_ | refine Wp.reg ?_ | refine Wp.block ?_ | refine Wp.skip ?_ | refine Wp.ret ?_ | refine Wp.exit ?_ | refine Wp.label ?_ | refine Wp.condG ?_) | simp (disch := omega) only [↓RP, RQ, TS, TR, ↓reduceIte, Nat.reduceEqDiff, Nat.reduceLT, Nat.reduceLeDiff, Int.reduceLT, Int.reduceLE, Int.reduceEq, Int.reduceAdd, Int.reduceSub, Int.reduceNeg, Int.reduceToNat, Nat.reduceAdd, Nat.reduceMul, Nat.reduceSub, reduceCtorEq, RC, Int.cast_ofNat_Int, hn, g0, g1, g2, g3, hS.ld 1 rfl]
  refine callFW_of (distances_ok N tv (tE es) hT hN (by rw [tE_length]; exact he) (tE_val hval) t first ht (by rw [tE_length]; exact hf)) ?_
  rintro wd H4 ⟨d, hd, hdN, hS4⟩
  rw [tE_drop] at hd
  have hS := hS.trans hS4
  simp only [List.nil_append, List.cons_append, List.append_nil, List.set_cons_zero, List.set_cons_succ, setMany_cons, setMany_nil, Nat.zero_add, Nat.mul_one, Nat.add_zero] at hS
  repeat first | (with_reducible first | refine Wp.seq ?_ | refine Wp.reg ?_ | refine Wp.block ?_ | refine Wp.skip ?_ | refine Wp.ret ?_ | refine Wp.exit ?_ | refine Wp.label ?_ | refine Wp.condG ?_) | simp (disch := omega) only [↓RP, RQ, TS, TR, ↓reduceIte, Nat.reduceEqDiff, Nat.reduceLT, Nat.reduceLeDiff, Int.reduceLT, Int.reduceLE, Int.reduceEq, Int.reduceAdd, Int.reduceSub, Int.reduceNeg, Int.reduceToNat, Nat.reduceAdd, Nat.reduceMul, Nat.reduceSub, reduceCtorEq, RC, Int.cast_ofNat_Int, hn, g0, g1, g2, g3]
  refine hS.eNew 1 [.slice none 0 0] rfl rfl rfl tS29 fun D H5 hS => ?_
  repeat first | (with_reducible first | refine Wp.seq ?_ | refine Wp.reg ?_ | refine Wp.block ?_ | refine Wp.skip ?_ | refine Wp.ret ?_ | refine Wp.exit ?_ | refine Wp.label ?_ | refine Wp.condG ?_) | simp (disch := omega) only [↓RP, RQ, TS, TR, ↓reduceIte, Nat.reduceEqDiff, Nat.reduceLT, Nat.reduceLeDiff, Int.reduceLT, Int.reduceLE, Int.reduceEq, Int.reduceAdd, Int.reduceSub, Int.reduceNeg, Int.reduceToNat, Nat.reduceAdd, Nat.reduceMul, Nat.reduceSub, reduceCtorEq, RC, Int.cast_ofNat_Int, hn, g0, g1, g2, g3]
  have hwd := (hS.rd 2 rfl).cells
  refine hS.eStore 3 rfl [wd] (by rw [hwd.1]) (by simp [hwd.2.1]) tS29 (by simp) fun H6 hS => ?_
  simp only [List.nil_append, List.cons_append, List.append_nil, List.set_cons_zero, List.set_cons_succ, setMany_cons, setMany_nil, Nat.zero_add, Nat.mul_one, Nat.add_zero] at hS
  have hd1 : Sl1 H6 wd (.int .i64) d := hS.rd 2 rfl
  have hdl := hd.len
  repeat first | (with_reducible first | refine Wp.seq ?_ | refine Wp.reg ?_ | refine Wp.block ?_ | refine Wp.skip ?_ | refine Wp.ret ?_ | refine Wp.exit ?_ | refine Wp.label ?_ | refine Wp.condG ?_) | simp (disch := omega) only [↓RP, RQ, TS, TR, ↓reduceIte, Nat.reduceEqDiff, Nat.reduceLT, Nat.reduceLeDiff, Int.reduceLT, Int.reduceLE, Int.reduceEq, Int.reduceAdd, Int.reduceSub, Int.reduceNeg, Int.reduceToNat, Nat.reduceAdd, Nat.reduceMul, Nat.reduceSub, reduceCtorEq, RC, Int.cast_ofNat_Int, hn, g0, g1, g2, g3, hS2.ld 1 rfl, hS.ld 3 rfl, hd1.idx, hd1.ld 0]
  refine condW_split (fun h => ?_) (fun h => ?_)
  · repeat first | (with_reducible first | refine Wp.seq ?_ | refine Wp.reg ?_ | refine Wp.block ?_ | refine Wp.skip ?_ | refine Wp.ret ?_ | refine Wp.exit ?_ | refine Wp.label ?_ | refine Wp.condG ?_) | simp (disch := omega) only [↓RP, RQ, TS, TR, ↓reduceIte, Nat.reduceEqDiff, Nat.reduceLT, Nat.reduceLeDiff, Int.reduceLT, Int.reduceLE, Int.reduceEq, Int.reduceAdd, Int.reduceSub, Int.reduceNeg, Int.reduceToNat, Nat.reduceAdd, Nat.reduceMul, Nat.reduceSub, reduceCtorEq, RC, Int.cast_ofNat_Int, hn, g0, g1, g2, g3]
    refine ⟨d, .slice none 0 0, hd, hdN, ?_, ?_⟩
    · rw [decide_eq_false (by omega)]
    · rw [if_neg (by omega)]
      exact hS.forget.nil 0
  repeat first | (with_reducible first | refine Wp.seq ?_ | refine Wp.reg ?_ | refine Wp.block ?_ | refine Wp.skip ?_ | refine Wp.ret ?_ | refine Wp.exit ?_ | refine Wp.label ?_ | refine Wp.condG ?_) | simp (disch := omega) only [↓RP, RQ, TS, TR, ↓reduceIte, Nat.reduceEqDiff, Nat.reduceLT, Nat.reduceLeDiff, Int.reduceLT, Int.reduceLE, Int.reduceEq, Int.reduceAdd, Int.reduceSub, Int.reduceNeg, Int.reduceToNat, Nat.reduceAdd, Nat.reduceMul, Nat.reduceSub, reduceCtorEq, RC, Int.cast_ofNat_Int, hn, g0, g1, g2, g3]
  refine hS.eNew 1 [.slice none 0 0] rfl rfl rfl tS29 fun O H7 hS => ?_
  repeat first | (with_reducible first | refine Wp.seq ?_ | refine Wp.reg ?_ | refine Wp.block ?_ | refine Wp.skip ?_ | refine Wp.ret ?_ | refine Wp.exit ?_ | refine Wp.label ?_ | refine Wp.condG ?_) | simp (disch := omega) only [↓RP, RQ, TS, TR, ↓reduceIte, Nat.reduceEqDiff, Nat.reduceLT, Nat.reduceLeDiff, Int.reduceLT, Int.reduceLE, Int.reduceEq, Int.reduceAdd, Int.reduceSub, Int.reduceNeg, Int.reduceToNat, Nat.reduceAdd, Nat.reduceMul, Nat.reduceSub, reduceCtorEq, RC, Int.cast_ofNat_Int, hn, g0, g1, g2, g3]
  refine hS.eNew 1 [I 0] rfl rfl rfl tS3 fun C H8 hS => ?_
  repeat first | (with_reducible first | refine Wp.seq ?_ | refine Wp.reg ?_ | refine Wp.block ?_ | refine Wp.skip ?_ | refine Wp.ret ?_ | refine Wp.exit ?_ | refine Wp.label ?_ | refine Wp.condG ?_) | simp (disch := omega) only [↓RP, RQ, TS, TR, ↓reduceIte, Nat.reduceEqDiff, Nat.reduceLT, Nat.reduceLeDiff, Int.reduceLT, Int.reduceLE, Int.reduceEq, Int.reduceAdd, Int.reduceSub, Int.reduceNeg, Int.reduceToNat, Nat.reduceAdd, Nat.reduceMul, Nat.reduceSub, reduceCtorEq, RC, Int.cast_ofNat_Int, hn, g0, g1, g2, g3]
  refine hS.eStore 5 rfl [I s] rfl rfl tS3 (by simp) fun H9 hS => ?_
  have hS := (hS.nil 0).front
  simp only [List.nil_append, List.cons_append, List.append_nil, List.set_cons_zero, List.set_cons_succ, setMany_cons, setMany_nil, Nat.zero_add, Nat.mul_one, Nat.add_zero] at hS
  repeat first | (with_reducible first | refine Wp.seq ?_ | refine Wp.reg ?_ | refine Wp.block ?_ | refine Wp.skip ?_ | refine Wp.ret ?_ | refine Wp.exit ?_ | refine Wp.label ?_ | refine Wp.condG ?_) | simp (disch := omega) only [↓RP, RQ, TS, TR, ↓reduceIte, Nat.reduceEqDiff, Nat.reduceLT, Nat.reduceLeDiff, Int.reduceLT, Int.reduceLE, Int.reduceEq, Int.reduceAdd, Int.reduceSub, Int.reduceNeg, Int.reduceToNat, Nat.reduceAdd, Nat.reduceMul, Nat.reduceSub, reduceCtorEq, RC, Int.cast_ofNat_Int, hn, g0, g1, g2, g3]
  refine Wp.loopN (fun m l H' => l.length = 63 ∧ get l 4 = ptr A 0 2 ∧ get l 7 = ptr F 0 1 ∧ get l 10 = ptr D 0 1 ∧ get l 11 = ptr O 0 1 ∧ ∃ (C a : Nat) (ov : Value) (p : List Nat), get l 12 = ptr C 0 1 ∧ a < N ∧ d.getD a 0 = (m : Int) ∧
    p ++ pF es first d m a = pF es first d (d.getD s 0).toNat s ∧ p.length + m = (d.getD s 0).toNat ∧
    St Try.prog H H' [⟨ov, 1, nts p⟩, ⟨ptr A 0 2, 0, [I N, v]⟩, ⟨ptr F 0 1, 0, [I first]⟩, ⟨wd, 1, d.map (.int .i64)⟩, ⟨ptr D 0 1, 0, [wd]⟩, ⟨ptr O 0 1, 0, [ov]⟩, ⟨ptr C 0 1, 0, [I a]⟩]) (d.getD s 0).toNat ?_ ?_
  · repeat first | (with_reducible first | refine Wp.seq ?_ | refine Wp.reg ?_ | refine Wp.block ?_ | refine Wp.skip ?_ | refine Wp.ret ?_ | refine Wp.exit ?_ | refine Wp.label ?_ | refine Wp.condG ?_) | simp (disch := omega) only [↓RP, RQ, TS, TR, ↓reduceIte, Nat.reduceEqDiff, Nat.reduceLT, Nat.reduceLeDiff, Int.reduceLT, Int.reduceLE, Int.reduceEq, Int.reduceAdd, Int.reduceSub, Int.reduceNeg, Int.reduceToNat, Nat.reduceAdd, Nat.reduceMul, Nat.reduceSub, reduceCtorEq, RC, Int.cast_ofNat_Int, hn, g0, g1, g2, g3]
    exact ⟨C, s, _, [], rfl, hs, by omega, rfl, by simp, hS⟩
  clear hS hS2 hS3 hS4 hn g0 g1 g2 g3 hd1 hT
  rintro m l H' ⟨hn, g4, g7, g10, g11, C, a, ov, p, g12, haN, hda, hp, hpl, hS⟩
  have hd1 : Sl1 H' wd (.int .i64) d := hS.rd 3 rfl
  repeat first | (with_reducible first | refine Wp.seq ?_ | refine Wp.reg ?_ | refine Wp.block ?_ | refine Wp.skip ?_ | refine Wp.ret ?_ | refine Wp.exit ?_ | refine Wp.label ?_ | refine Wp.condG ?_) | simp (disch := omega) only [↓RP, RQ, TS, TR, ↓reduceIte, Nat.reduceEqDiff, Nat.reduceLT, Nat.reduceLeDiff, Int.reduceLT, Int.reduceLE, Int.reduceEq, Int.reduceAdd, Int.reduceSub, Int.reduceNeg, Int.reduceToNat, Nat.reduceAdd, Nat.reduceMul, Nat.reduceSub, reduceCtorEq, RC, Int.cast_ofNat_Int, hn, g4, g7, g10, g11, g12, hS.ld 4 rfl, hS.ld 6 rfl, hd1.idx, hd1.ld 0]
  refine condW_split (fun h3 => ?_) (fun h3 => ?_)
  · repeat first | (with_reducible first | refine Wp.seq ?_ | refine Wp.reg ?_ | refine Wp.block ?_ | refine Wp.skip ?_ | refine Wp.ret ?_ | refine Wp.exit ?_ | refine Wp.label ?_ | refine Wp.condG ?_) | simp (disch := omega) only [↓RP, RQ, TS, TR, ↓reduceIte, Nat.reduceEqDiff, Nat.reduceLT, Nat.reduceLeDiff, Int.reduceLT, Int.reduceLE, Int.reduceEq, Int.reduceAdd, Int.reduceSub, Int.reduceNeg, Int.reduceToNat, Nat.reduceAdd, Nat.reduceMul, Nat.reduceSub, reduceCtorEq, RC, Int.cast_ofNat_Int, hn, g4, g7, g10, g11, g12, hS.ldA 1 rfl, hS.ld 6 rfl]
    refine callFW_of (out1_ok N a v hv.one) ?_
    rintro r H2 ⟨Ag, An, rfl, hS2⟩
    have hS := hS.trans hS2
    simp only [List.nil_append, List.cons_append, List.append_nil, List.set_cons_zero, List.set_cons_succ, setMany_cons, setMany_nil, Nat.zero_add, Nat.mul_one, Nat.add_zero] at hS
    repeat first | (with_reducible first | refine Wp.seq ?_ | refine Wp.reg ?_ | refine Wp.block ?_ | refine Wp.skip ?_ | refine Wp.ret ?_ | refine Wp.exit ?_ | refine Wp.label ?_ | refine Wp.condG ?_) | simp (disch := omega) only [↓RP, RQ, TS, TR, ↓reduceIte, Nat.reduceEqDiff, Nat.reduceLT, Nat.reduceLeDiff, Int.reduceLT, Int.reduceLE, Int.reduceEq, Int.reduceAdd, Int.reduceSub, Int.reduceNeg, Int.reduceToNat, Nat.reduceAdd, Nat.reduceMul, Nat.reduceSub, reduceCtorEq, RC, Int.cast_ofNat_Int, hn, g4, g7, g10, g11, g12]
    refine Wp.slots fun l' hl' => ?_
    have hn' : l'.length = 63 := by rw [hl']; simp (disch := omega) only [↓RP, RQ, TS, TR, ↓reduceIte, Nat.reduceEqDiff, Nat.reduceLT, Nat.reduceLeDiff, Int.reduceLT, Int.reduceLE, Int.reduceEq, Int.reduceAdd, Int.reduceSub, Int.reduceNeg, Int.reduceToNat, Nat.reduceAdd, Nat.reduceMul, Nat.reduceSub, reduceCtorEq, RC, Int.cast_ofNat_Int, hn]
    have g4' : get l' 4 = ptr A 0 2 := by rw [hl']; simp (disch := omega) only [↓RP, RQ, TS, TR, ↓reduceIte, Nat.reduceEqDiff, Nat.reduceLT, Nat.reduceLeDiff, Int.reduceLT, Int.reduceLE, Int.reduceEq, Int.reduceAdd, Int.reduceSub, Int.reduceNeg, Int.reduceToNat, Nat.reduceAdd, Nat.reduceMul, Nat.reduceSub, reduceCtorEq, RC, Int.cast_ofNat_Int, hn, g4]
    have g7' : get l' 7 = ptr F 0 1 := by rw [hl']; simp (disch := omega) only [↓RP, RQ, TS, TR, ↓reduceIte, Nat.reduceEqDiff, Nat.reduceLT, Nat.reduceLeDiff, Int.reduceLT, Int.reduceLE, Int.reduceEq, Int.reduceAdd, Int.reduceSub, Int.reduceNeg, Int.reduceToNat, Nat.reduceAdd, Nat.reduceMul, Nat.reduceSub, reduceCtorEq, RC, Int.cast_ofNat_Int, hn, g7]
    have g10' : get l' 10 = ptr D 0 1 := by rw [hl']; simp (disch := omega) only [↓RP, RQ, TS, TR, ↓reduceIte, Nat.reduceEqDiff, Nat.reduceLT, Nat.reduceLeDiff, Int.reduceLT, Int.reduceLE, Int.reduceEq, Int.reduceAdd, Int.reduceSub, Int.reduceNeg, Int.reduceToNat, Nat.reduceAdd, Nat.reduceMul, Nat.reduceSub, reduceCtorEq, RC, Int.cast_ofNat_Int, hn, g10]
    have g11' : get l' 11 = ptr O 0 1 := by rw [hl']; simp (disch := omega) only [↓RP, RQ, TS, TR, ↓reduceIte, Nat.reduceEqDiff, Nat.reduceLT, Nat.reduceLeDiff, Int.reduceLT, Int.reduceLE, Int.reduceEq, Int.reduceAdd, Int.reduceSub, Int.reduceNeg, Int.reduceToNat, Nat.reduceAdd, Nat.reduceMul, Nat.reduceSub, reduceCtorEq, RC, Int.cast_ofNat_Int, hn, g11]
    have g12' : get l' 12 = ptr C 0 1 := by rw [hl']; simp (disch := omega) only [↓RP, RQ, TS, TR, ↓reduceIte, Nat.reduceEqDiff, Nat.reduceLT, Nat.reduceLeDiff, Int.reduceLT, Int.reduceLE, Int.reduceEq, Int.reduceAdd, Int.reduceSub, Int.reduceNeg, Int.reduceToNat, Nat.reduceAdd, Nat.reduceMul, Nat.reduceSub, reduceCtorEq, RC, Int.cast_ofNat_Int, hn, g12]
    have g33' : get l' 33 = .func (.func 50) #[] [ptr Ag 0 2, ptr An 0 1].toArray := by rw [hl']; simp (disch := omega) only [↓RP, RQ, TS, TR, ↓reduceIte, Nat.reduceEqDiff, Nat.reduceLT, Nat.reduceLeDiff, Int.reduceLT, Int.reduceLE, Int.reduceEq, Int.reduceAdd, Int.reduceSub, Int.reduceNeg, Int.reduceToNat, Nat.reduceAdd, Nat.reduceMul, Nat.reduceSub, reduceCtorEq, RC, Int.cast_ofNat_Int, hn]
    clear hl' hn g4 g7 g10 g11 g12 hS2 hd1
    obtain ⟨m', rfl⟩ : ∃ m', m = m' + 1 := ⟨m - 1, by omega⟩
    have hdaN := hdN a haN
    have hdsN := hdN s hs
    refine Wp.rangeR g33' fun r hst hpd htm hps has hbd => ?_
    have hreq : ({ r with state := .ready, pending := none } : Loop) = r := by
      cases r
      simp only at hst hpd
      subst hst hpd
      rfl
    have hLp := Lp.enter hS r
    generalize H2.cons (.loop r) = Hc at hLp ⊢
    generalize H2.length = L at hLp ⊢
    clear hS
    refine (out_ok N a v es he Ag An (.func (.yield L) #[] #[])
      (fun j H1 => Lp Try.prog H L r H1 [⟨ov, 1, nts p⟩, ⟨ptr A 0 2, 0, [I N, v]⟩, ⟨ptr F 0 1, 0, [I first]⟩, ⟨wd, 1, d.map (.int .i64)⟩, ⟨ptr D 0 1, 0, [wd]⟩, ⟨ptr O 0 1, 0, [ov]⟩, ⟨ptr C 0 1, 0, [I a]⟩, ⟨ptr Ag 0 2, 0, [I N, v]⟩, ⟨ptr An 0 1, 0, [I a]⟩] ∧
        ∀ i, first ≤ i → i < j → mt d m' a (es.getD i (0, 0)) = false)
      (fun H1 => ∃ ov', Lp Try.prog H L { r with state := .done, pending := some (.exit 2) } H1 [⟨ov', 1, nts (p ++ [pk es first d m' a])⟩, ⟨ptr A 0 2, 0, [I N, v]⟩, ⟨ptr F 0 1, 0, [I first]⟩, ⟨wd, 1, d.map (.int .i64)⟩, ⟨ptr D 0 1, 0, [wd]⟩, ⟨ptr O 0 1, 0, [ov']⟩,
        ⟨ptr C 0 1, 0, [I (es.getD (pk es first d m' a) (0, 0)).2]⟩, ⟨ptr Ag 0 2, 0, [I N, v]⟩, ⟨ptr An 0 1, 0, [I a]⟩]) ⟨hLp, fun i _ hi => absurd hi (Nat.not_lt_zero _)⟩ ?_ ?_ ?_ ?_).mono ?_
    · rintro j H1 ⟨h1, _⟩
      exact ⟨h1.st.var 7 rfl, h1.st.var 8 rfl, h1.st.base hv⟩
    · rintro j H1 H2 ⟨h1, h2⟩ h3
      exact ⟨by simpa using h1.ext h3, h2⟩
    · rintro j H1 hj hne ⟨h1, h2⟩
      refine ⟨h1, fun i hi1 hi2 => ?_⟩
      by_cases e : i = j
      · subst e
        rw [← Bool.not_eq_true, mt_iff]
        exact fun hh => hne hh.1
      · exact h2 i hi1 (by omega)
    · rintro j H1 hj hja ⟨h1, h2⟩
      refine callW_yield h1.get (by rw [hps]; rfl) hst ?_
      refine Wp.of_eq (l := put l' (some 34) (I j)) has (by rw [hps, htm]; exact (setL_eq ..).symm) ?_
      repeat first | (with_reducible first | refine Wp.seq ?_ | refine Wp.reg ?_ | refine Wp.block ?_ | refine Wp.skip ?_ | refine Wp.ret ?_ | refine Wp.exit ?_ | refine Wp.label ?_ | refine Wp.condG ?_) | simp (disch := omega) only [↓RP, RQ, TS, TR, ↓reduceIte, Nat.reduceEqDiff, Nat.reduceLT, Nat.reduceLeDiff, Int.reduceLT, Int.reduceLE, Int.reduceEq, Int.reduceAdd, Int.reduceSub, Int.reduceNeg, Int.reduceToNat, Nat.reduceAdd, Nat.reduceMul, Nat.reduceSub, reduceCtorEq, RC, Int.cast_ofNat_Int, hn']
      refine ⟨r, h1.get, hst, ?_⟩
      have hB := h1.set (fun h => h) { r with state := .busy }
      generalize hset H1 L (.loop { r with state := .busy }) = Hb at hB ⊢
      refine Wp.of_eq hbd rfl ?_
      have hS := hB.st.rebase
      have hv1 : Sl2 Hb v _ _ es := hB.st.base hv
      have hd1 : Sl1 Hb wd (.int .i64) d := hS.rd 3 rfl
      have hm2 := (hval _ (getD_mem (0, 0) hj)).2
      repeat first | (with_reducible first | refine Wp.seq ?_ | refine Wp.reg ?_ | refine Wp.block ?_ | refine Wp.skip ?_ | refine Wp.ret ?_ | refine Wp.exit ?_ | refine Wp.label ?_ | refine Wp.condG ?_) | with_reducible refine Wp.drw hmix (by kernel_rfl) ?_ | simp (disch := omega) only [↓RP, RQ, TS, TR, ↓reduceIte, Nat.reduceEqDiff, Nat.reduceLT, Nat.reduceLeDiff, Int.reduceLT, Int.reduceLE, Int.reduceEq, Int.reduceAdd, Int.reduceSub, Int.reduceNeg, Int.reduceToNat, Nat.reduceAdd, Nat.reduceMul, Nat.reduceSub, reduceCtorEq, RC, Int.cast_ofNat_Int, hn', g4', g7', g10', g11', g12', hS.ld 1 rfl, hS.ld 2 rfl, hS.ld 4 rfl, hS.ld 6 rfl, hv1.idx, hv1.fld, hv1.ld1 (0, 0)]
      refine letG_split (fun h4 => ?_) (fun h4 => ?_)
      · have hsub : IntKind.wrap .i64 (d.getD a 0 - 1) = m' := by rw [hda, wrap_fit _ (by omega) (by omega)]; omega
        repeat first | (with_reducible first | refine Wp.seq ?_ | refine Wp.reg ?_ | refine Wp.block ?_ | refine Wp.skip ?_ | refine Wp.ret ?_ | refine Wp.exit ?_ | refine Wp.label ?_ | refine Wp.condG ?_) | with_reducible refine Wp.drw hmix (by kernel_rfl) ?_ | simp (disch := omega) only [↓RP, RQ, TS, TR, ↓reduceIte, Nat.reduceEqDiff, Nat.reduceLT, Nat.reduceLeDiff, Int.reduceLT, Int.reduceLE, Int.reduceEq, Int.reduceAdd, Int.reduceSub, Int.reduceNeg, Int.reduceToNat, Nat.reduceAdd, Nat.reduceMul, Nat.reduceSub, reduceCtorEq, RC, Int.cast_ofNat_Int, hn', g4', g7', g10', g11', g12', h4, hS.ld 1 rfl, hS.ld 2 rfl, hS.ld 4 rfl, hS.ld 6 rfl, hd1.idx, hd1.ld 0, hsub]
        refine condW_split (fun h5 => ?_) (fun h5 => ?_)
        · have hpk := pk_eq es first d m' a j (by omega) hj ((mt_iff ..).2 ⟨hja, h5⟩) h2
          repeat first | (with_reducible first | refine Wp.seq ?_ | refine Wp.reg ?_ | refine Wp.block ?_ | refine Wp.skip ?_ | refine Wp.ret ?_ | refine Wp.exit ?_ | refine Wp.label ?_ | refine Wp.condG ?_) | simp (disch := omega) only [↓RP, RQ, TS, TR, ↓reduceIte, Nat.reduceEqDiff, Nat.reduceLT, Nat.reduceLeDiff, Int.reduceLT, Int.reduceLE, Int.reduceEq, Int.reduceAdd, Int.reduceSub, Int.reduceNeg, Int.reduceToNat, Nat.reduceAdd, Nat.reduceMul, Nat.reduceSub, reduceCtorEq, RC, Int.cast_ofNat_Int, hn', g4', g7', g10', g11', g12', hS.ld 5 rfl]
          refine hS.eSlice [I j] tP29 tF29 rfl rfl (by simp [Value.cells]) rfl rfl (by decide) (by decide) fun x H5 hS => ?_
          repeat first | (with_reducible first | refine Wp.seq ?_ | refine Wp.reg ?_ | refine Wp.block ?_ | refine Wp.skip ?_ | refine Wp.ret ?_ | refine Wp.exit ?_ | refine Wp.label ?_ | refine Wp.condG ?_) | simp (disch := omega) only [↓RP, RQ, TS, TR, ↓reduceIte, Nat.reduceEqDiff, Nat.reduceLT, Nat.reduceLeDiff, Int.reduceLT, Int.reduceLE, Int.reduceEq, Int.reduceAdd, Int.reduceSub, Int.reduceNeg, Int.reduceToNat, Nat.reduceAdd, Nat.reduceMul, Nat.reduceSub, reduceCtorEq, RC, Int.cast_ofNat_Int, hn', g4', g7', g10', g11', g12']
          refine hS.eAppend 0 rfl (hS.rd 9 rfl) tP29 (by simp only [nts, List.length_map, List.length_cons, List.length_nil]; omega) fun ov' H6 hS => ?_
          simp only [List.nil_append, List.cons_append, List.append_nil, List.set_cons_zero, List.set_cons_succ, setMany_cons, setMany_nil, Nat.zero_add, Nat.mul_one, Nat.add_zero] at hS
          have hw := (hS.rd 0 rfl).cells
          repeat first | (with_reducible first | refine Wp.seq ?_ | refine Wp.reg ?_ | refine Wp.block ?_ | refine Wp.skip ?_ | refine Wp.ret ?_ | refine Wp.exit ?_ | refine Wp.label ?_ | refine Wp.condG ?_) | simp (disch := omega) only [↓RP, RQ, TS, TR, ↓reduceIte, Nat.reduceEqDiff, Nat.reduceLT, Nat.reduceLeDiff, Int.reduceLT, Int.reduceLE, Int.reduceEq, Int.reduceAdd, Int.reduceSub, Int.reduceNeg, Int.reduceToNat, Nat.reduceAdd, Nat.reduceMul, Nat.reduceSub, reduceCtorEq, RC, Int.cast_ofNat_Int, hn', g4', g7', g10', g11', g12']
          refine hS.eStore 5 rfl [ov'] (by rw [hw.1]) (by simp [hw.2.1]) tS29 (by simp) fun H7 hS => ?_
          simp only [List.nil_append, List.cons_append, List.append_nil, List.set_cons_zero, List.set_cons_succ, setMany_cons, setMany_nil, Nat.zero_add, Nat.mul_one, Nat.add_zero] at hS
          repeat first | (with_reducible first | refine Wp.seq ?_ | refine Wp.reg ?_ | refine Wp.block ?_ | refine Wp.skip ?_ | refine Wp.ret ?_ | refine Wp.exit ?_ | refine Wp.label ?_ | refine Wp.condG ?_) | simp (disch := omega) only [↓RP, RQ, TS, TR, ↓reduceIte, Nat.reduceEqDiff, Nat.reduceLT, Nat.reduceLeDiff, Int.reduceLT, Int.reduceLE, Int.reduceEq, Int.reduceAdd, Int.reduceSub, Int.reduceNeg, Int.reduceToNat, Nat.reduceAdd, Nat.reduceMul, Nat.reduceSub, reduceCtorEq, RC, Int.cast_ofNat_Int, hn', g4', g7', g10', g11', g12']
          refine hS.eStore 6 rfl [_] rfl rfl tS3 (by simp) fun H8 hS => ?_
          simp only [List.nil_append, List.cons_append, List.append_nil, List.set_cons_zero, List.set_cons_succ, setMany_cons, setMany_nil, Nat.zero_add, Nat.mul_one, Nat.add_zero] at hS
          repeat first | (with_reducible first | refine Wp.seq ?_ | refine Wp.reg ?_ | refine Wp.block ?_ | refine Wp.skip ?_ | refine Wp.ret ?_ | refine Wp.exit ?_ | refine Wp.label ?_ | refine Wp.condG ?_) | simp (disch := omega) only [↓RP, RQ, TS, TR, ↓reduceIte, Nat.reduceEqDiff, Nat.reduceLT, Nat.reduceLeDiff, Int.reduceLT, Int.reduceLE, Int.reduceEq, Int.reduceAdd, Int.reduceSub, Int.reduceNeg, Int.reduceToNat, Nat.reduceAdd, Nat.reduceMul, Nat.reduceSub, reduceCtorEq, RC, Int.cast_ofNat_Int, hn', g4', g7', g10', g11', g12']
          have hB2 := (hB.body hS).sub (os' := [⟨ov', 1, nts (p ++ [pk es first d m' a])⟩, ⟨ptr A 0 2, 0, [I N, v]⟩, ⟨ptr F 0 1, 0, [I first]⟩, ⟨wd, 1, d.map (.int .i64)⟩, ⟨ptr D 0 1, 0, [wd]⟩, ⟨ptr O 0 1, 0, [ov']⟩,
            ⟨ptr C 0 1, 0, [I (es.getD (pk es first d m' a) (0, 0)).2]⟩, ⟨ptr Ag 0 2, 0, [I N, v]⟩, ⟨ptr An 0 1, 0, [I a]⟩]) (by rw [hpk]; simp [nts])
          exact ⟨_, hB2.get, false, rfl, (fun h => by cases h), fun _ => ⟨ov', hB2.set (fun h => h) _⟩⟩
        · repeat first | (with_reducible first | refine Wp.seq ?_ | refine Wp.reg ?_ | refine Wp.block ?_ | refine Wp.skip ?_ | refine Wp.ret ?_ | refine Wp.exit ?_ | refine Wp.label ?_ | refine Wp.condG ?_) | simp (disch := omega) only [↓RP, RQ, TS, TR, ↓reduceIte, Nat.reduceEqDiff, Nat.reduceLT, Nat.reduceLeDiff, Int.reduceLT, Int.reduceLE, Int.reduceEq, Int.reduceAdd, Int.reduceSub, Int.reduceNeg, Int.reduceToNat, Nat.reduceAdd, Nat.reduceMul, Nat.reduceSub, reduceCtorEq, RC, Int.cast_ofNat_Int, hn']
          have hB2 := hB.body hS
          refine ⟨_, hB2.get, true, rfl, (fun _ => ⟨?_, ?_⟩), (fun h => by cases h)⟩
          · have := hB2.set (fun h => h) r
            rw [← hreq] at this
            exact hreq ▸ this
          · intro i hi1 hi2
            by_cases e : i = j
            · subst e
              rw [← Bool.not_eq_true, mt_iff]
              exact fun hh => h5 hh.2
            · exact h2 i hi1 (by omega)
      · repeat first | (with_reducible first | refine Wp.seq ?_ | refine Wp.reg ?_ | refine Wp.block ?_ | refine Wp.skip ?_ | refine Wp.ret ?_ | refine Wp.exit ?_ | refine Wp.label ?_ | refine Wp.condG ?_) | simp (disch := omega) only [↓RP, RQ, TS, TR, ↓reduceIte, Nat.reduceEqDiff, Nat.reduceLT, Nat.reduceLeDiff, Int.reduceLT, Int.reduceLE, Int.reduceEq, Int.reduceAdd, Int.reduceSub, Int.reduceNeg, Int.reduceToNat, Nat.reduceAdd, Nat.reduceMul, Nat.reduceSub, reduceCtorEq, RC, Int.cast_ofNat_Int, hn', h4]
        have hB2 := hB.body hS
        refine ⟨_, hB2.get, true, rfl, (fun _ => ⟨?_, ?_⟩), (fun h => by cases h)⟩
        · have := hB2.set (fun h => h) r
          rw [← hreq] at this
          exact hreq ▸ this
        · intro i hi1 hi2
          by_cases e : i = j
          · omega
          · exact h2 i hi1 (by omega)
    · rintro _ H4 (⟨h1, h2⟩ | ⟨ov', h1⟩)
      · obtain ⟨j, hj1, hj2, hj3⟩ := nearer hval hd a m' haN hda
        rw [h2 j hj1 hj2] at hj3
        cases hj3
      · refine ⟨_, h1.get, (fun h => by cases h), (fun h => by cases h), ?_⟩
        intro c hc
        obtain rfl : Code.exit 2 = c := Option.some.inj hc
        refine Wp.exit ?_
        have hB := h1.set (fun h => h) { r with state := .exhausted, pending := some (.exit 2) }
        have hS := hB.st
        show blockQ 2 _ (.exit 2) l' (hset H4 L (.loop { r with state := .exhausted, pending := some (.exit 2) }))
        generalize hset H4 L (.loop { r with state := .exhausted, pending := some (.exit 2) }) = H5 at hS ⊢
        repeat first | (with_reducible first | refine Wp.seq ?_ | refine Wp.reg ?_ | refine Wp.block ?_ | refine Wp.skip ?_ | refine Wp.ret ?_ | refine Wp.exit ?_ | refine Wp.label ?_ | refine Wp.condG ?_) | simp (disch := omega) only [↓RP, RQ, TS, TR, ↓reduceIte, Nat.reduceEqDiff, Nat.reduceLT, Nat.reduceLeDiff, Int.reduceLT, Int.reduceLE, Int.reduceEq, Int.reduceAdd, Int.reduceSub, Int.reduceNeg, Int.reduceToNat, Nat.reduceAdd, Nat.reduceMul, Nat.reduceSub, reduceCtorEq, RC, Int.cast_ofNat_Int, hn', g4', g7', g10', g11', g12', hS.ld 6 rfl]
        refine hS.eNew 1 [I 0] rfl rfl rfl tS3 fun C' H6 hS => ?_
        repeat first | (with_reducible first | refine Wp.seq ?_ | refine Wp.reg ?_ | refine Wp.block ?_ | refine Wp.skip ?_ | refine Wp.ret ?_ | refine Wp.exit ?_ | refine Wp.label ?_ | refine Wp.condG ?_) | simp (disch := omega) only [↓RP, RQ, TS, TR, ↓reduceIte, Nat.reduceEqDiff, Nat.reduceLT, Nat.reduceLeDiff, Int.reduceLT, Int.reduceLE, Int.reduceEq, Int.reduceAdd, Int.reduceSub, Int.reduceNeg, Int.reduceToNat, Nat.reduceAdd, Nat.reduceMul, Nat.reduceSub, reduceCtorEq, RC, Int.cast_ofNat_Int, hn', g4', g7', g10', g11', g12']
        refine hS.eStore 9 rfl [I (es.getD (pk es first d m' a) (0, 0)).2] rfl rfl tS3 (by simp) fun H7 hS => ?_
        simp only [List.nil_append, List.cons_append, List.append_nil, List.set_cons_zero, List.set_cons_succ, setMany_cons, setMany_nil, Nat.zero_add, Nat.mul_one, Nat.add_zero] at hS
        repeat first | (with_reducible first | refine Wp.seq ?_ | refine Wp.reg ?_ | refine Wp.block ?_ | refine Wp.skip ?_ | refine Wp.ret ?_ | refine Wp.exit ?_ | refine Wp.label ?_ | refine Wp.condG ?_) | simp (disch := omega) only [↓RP, RQ, TS, TR, ↓reduceIte, Nat.reduceEqDiff, Nat.reduceLT, Nat.reduceLeDiff, Int.reduceLT, Int.reduceLE, Int.reduceEq, Int.reduceAdd, Int.reduceSub, Int.reduceNeg, Int.reduceToNat, Nat.reduceAdd, Nat.reduceMul, Nat.reduceSub, reduceCtorEq, RC, Int.cast_ofNat_Int, hn', g4', g7', g10', g11', g12']
        obtain ⟨k1, k2, k3, _⟩ := pk_spec es first d m' a (nearer hval hd a m' haN hda)
        have hmt := (mt_iff ..).1 k3
        have hk2 := (hval _ (getD_mem (0, 0) k2)).2
        refine ⟨m', by omega, C', _, ov', p ++ [pk es first d m' a], rfl, hk2, hmt.2, ?_, ?_, hS.sub ?_⟩
        · rw [← hp, List.append_assoc]
          rfl
        · rw [List.length_append]
          simp only [List.length_cons, List.length_nil]
          omega
        · exact .cons_cons _ (.cons_cons _ (.cons_cons _ (.cons_cons _ (.cons_cons _ (.cons_cons _ (.cons _ (.cons _ (.cons _ (.refl _)))))))))
  · have ho := hS.rd 0 rfl
    repeat first | (with_reducible first | refine Wp.seq ?_ | refine Wp.reg ?_ | refine Wp.block ?_ | refine Wp.skip ?_ | refine Wp.ret ?_ | refine Wp.exit ?_ | refine Wp.label ?_ | refine Wp.condG ?_) | simp (disch := omega) only [↓RP, RQ, TS, TR, ↓reduceIte, Nat.reduceEqDiff, Nat.reduceLT, Nat.reduceLeDiff, Int.reduceLT, Int.reduceLE, Int.reduceEq, Int.reduceAdd, Int.reduceSub, Int.reduceNeg, Int.reduceToNat, Nat.reduceAdd, Nat.reduceMul, Nat.reduceSub, reduceCtorEq, RC, Int.cast_ofNat_Int, hn, g4, g7, g10, g11, g12, hS.ld 5 rfl, ho.noTuple]
    have hm : m = 0 := by omega
    subst hm
    refine ⟨d, ov, hd, hdN, ?_, ?_⟩
    · rw [decide_eq_true (by omega)]
    · rw [if_pos (by omega), ← hp]
      simp only [pF, List.append_nil]
      exact hS.sub (by simp)
end Go.Ds
/-
  Contracts: Closure, Reverse.
-/
namespace Go.Ds
open Go.Proofs Go.Plain
variable {H : Heap}

theorem tR27 (l : List Value) (H : Heap) : resultsD Try.prog Try.f27 l H = (ldW (aggP Try.prog 27) (sizeP Try.prog 27) H (get l 2)).bind fun v => if (noTuple v && (noTuple (get l 3) && true)) = true then some (.tuple #[v, get l 3]) else none := by
  show (Option.bind (Option.bind (loadD Try.prog H 27 (get l 2)) fun v => some [v, get l 3]) fun vs => _) = _
  rw [loadD_eq]
  cases ldW _ _ H (get l 2) <;> rfl
theorem tR28 (l : List Value) (H : Heap) : resultsD Try.prog Try.f28 l H = (ldW (aggP Try.prog 27) (sizeP Try.prog 27) H (get l 2)).bind fun v => if (noTuple v && (noTuple (get l 3) && true)) = true then some (.tuple #[v, get l 3]) else none := by
  show (Option.bind (Option.bind (loadD Try.prog H 27 (get l 2)) fun v => some [v, get l 3]) fun vs => _) = _
  rw [loadD_eq]
  cases ldW _ _ H (get l 2) <;> rfl
theorem tB27n : builtV Try.prog 27 [] = some (.agg #[.int .i64 0, .slice none 0 0]) := by kernel_rfl

theorem turned2_ok (N : Nat) (v : Value) (es : List (Nat × Nat)) (hv : Eg H v es) (he : es.length ≤ 1000) : Fn Try.prog 44 [.agg #[I N, v]] H fun r H' => ∃ w, r = .agg #[I N, w] ∧ St Try.prog H H' [⟨w, 2, eg (tE es)⟩] := by
  refine Fn.of_wp (fn := Try.f44) rfl rfl (by kernel_rfl) fun l hl => ?_
  have hn : l.length = 28 := by rw [hl]; rfl
  have g0 : get l 0 = .agg #[I N, v] := by rw [hl]; rfl
  clear hl
  repeat first | (with_reducible first | refine Wp.seq ?_ | refine Wp.reg ?_ | refine Wp.block ?_ | refine Wp.skip ?_ | refine Wp.ret ?_ | refine Wp.exit ?_ | refine Wp.label ?_ | refine Wp.condG ?_) | simp (disch := omega) only [↓RP, RQ, TS, TR, ↓reduceIte, Nat.reduceEqDiff, Nat.reduceLT, Nat.reduceLeDiff, Int.reduceLT, Int.reduceLE, Int.reduceEq, Int.reduceAdd, Int.reduceSub, Int.reduceNeg, Int.reduceToNat, Nat.reduceAdd, Nat.reduceMul, Nat.reduceSub, reduceCtorEq, RC, Int.cast_ofNat_Int, hn, g0]
  refine (St.refl _ H).eNew 2 [I N, v] rfl rfl (by simp [hv.one]; rfl) tS27 fun A H1 hS => ?_
  repeat first | (with_reducible first | refine Wp.seq ?_ | refine Wp.reg ?_ | refine Wp.block ?_ | refine Wp.skip ?_ | refine Wp.ret ?_ | refine Wp.exit ?_ | refine Wp.label ?_ | refine Wp.condG ?_) | simp (disch := omega) only [↓RP, RQ, TS, TR, ↓reduceIte, Nat.reduceEqDiff, Nat.reduceLT, Nat.reduceLeDiff, Int.reduceLT, Int.reduceLE, Int.reduceEq, Int.reduceAdd, Int.reduceSub, Int.reduceNeg, Int.reduceToNat, Nat.reduceAdd, Nat.reduceMul, Nat.reduceSub, reduceCtorEq, RC, Int.cast_ofNat_Int, hn, g0]
  refine hS.eNew 2 [I 0, .slice none 0 0] rfl rfl rfl tS27 fun B H2 hS => ?_
  repeat first | (with_reducible first | refine Wp.seq ?_ | refine Wp.reg ?_ | refine Wp.block ?_ | refine Wp.skip ?_ | refine Wp.ret ?_ | refine Wp.exit ?_ | refine Wp.label ?_ | refine Wp.condG ?_) | simp (disch := omega) only [↓RP, RQ, TS, TR, ↓reduceIte, Nat.reduceEqDiff, Nat.reduceLT, Nat.reduceLeDiff, Int.reduceLT, Int.reduceLE, Int.reduceEq, Int.reduceAdd, Int.reduceSub, Int.reduceNeg, Int.reduceToNat, Nat.reduceAdd, Nat.reduceMul, Nat.reduceSub, reduceCtorEq, RC, Int.cast_ofNat_Int, hn, g0, hS.ld 0 rfl]
  refine hS.eNew 2 [I 0, .slice none 0 0] rfl rfl rfl tS27 fun C H3 hS => ?_
  repeat first | (with_reducible first | refine Wp.seq ?_ | refine Wp.reg ?_ | refine Wp.block ?_ | refine Wp.skip ?_ | refine Wp.ret ?_ | refine Wp.exit ?_ | refine Wp.label ?_ | refine Wp.condG ?_) | simp (disch := omega) only [↓RP, RQ, TS, TR, ↓reduceIte, Nat.reduceEqDiff, Nat.reduceLT, Nat.reduceLeDiff, Int.reduceLT, Int.reduceLE, Int.reduceEq, Int.reduceAdd, Int.reduceSub, Int.reduceNeg, Int.reduceToNat, Nat.reduceAdd, Nat.reduceMul, Nat.reduceSub, reduceCtorEq, RC, Int.cast_ofNat_Int, hn, g0]
  refine hS.eStore 2 rfl [_, _] rfl rfl tS27 (by simp) fun H4 hS => ?_
  have hS := hS.nil 1
  simp only [List.nil_append, List.cons_append, List.append_nil, List.set_cons_zero, List.set_cons_succ, setMany_cons, setMany_nil, Nat.zero_add, Nat.mul_one, Nat.add_zero] at hS
  have hv1 : Sl2 H4 v _ _ es := hS.base hv
  repeat first | (with_reducible first | refine Wp.seq ?_ | refine Wp.reg ?_ | refine Wp.block ?_ | refine Wp.skip ?_ | refine Wp.ret ?_ | refine Wp.exit ?_ | refine Wp.label ?_ | refine Wp.condG ?_) | simp (disch := omega) only [↓RP, RQ, TS, TR, ↓reduceIte, Nat.reduceEqDiff, Nat.reduceLT, Nat.reduceLeDiff, Int.reduceLT, Int.reduceLE, Int.reduceEq, Int.reduceAdd, Int.reduceSub, Int.reduceNeg, Int.reduceToNat, Nat.reduceAdd, Nat.reduceMul, Nat.reduceSub, reduceCtorEq, RC, Int.cast_ofNat_Int, hn, g0, hS.ld 0 rfl, hv1.len]
  refine Wp.loopN (fun n l H' => l.length = 28 ∧ get l 2 = ptr B 0 2 ∧ get l 3 = ptr C 0 2 ∧ get l 10 = v ∧ get l 11 = I es.length ∧ ∃ (i : Nat) (w : Value), n + i = es.length ∧ get l 12 = I i ∧
    St Try.prog H H' [⟨ptr A 0 2, 0, [I N, v]⟩, ⟨ptr B 0 2, 0, [I 0, .slice none 0 0]⟩, ⟨ptr C 0 2, 0, [I N, w]⟩, ⟨w, 2, eg (tE (es.take i))⟩]) es.length ?_ ?_
  · repeat first | (with_reducible first | refine Wp.seq ?_ | refine Wp.reg ?_ | refine Wp.block ?_ | refine Wp.skip ?_ | refine Wp.ret ?_ | refine Wp.exit ?_ | refine Wp.label ?_ | refine Wp.condG ?_) | simp (disch := omega) only [↓RP, RQ, TS, TR, ↓reduceIte, Nat.reduceEqDiff, Nat.reduceLT, Nat.reduceLeDiff, Int.reduceLT, Int.reduceLE, Int.reduceEq, Int.reduceAdd, Int.reduceSub, Int.reduceNeg, Int.reduceToNat, Nat.reduceAdd, Nat.reduceMul, Nat.reduceSub, reduceCtorEq, RC, Int.cast_ofNat_Int, hn, g0]
    exact ⟨0, _, rfl, rfl, hS⟩
  clear hS hn g0 hv1
  rintro n l H' ⟨hn, g2, g3, g10, g11, i, w, hi, g12, hS⟩
  have hv1 : Sl2 H' v _ _ es := hS.base hv
  repeat first | (with_reducible first | refine Wp.seq ?_ | refine Wp.reg ?_ | refine Wp.block ?_ | refine Wp.skip ?_ | refine Wp.ret ?_ | refine Wp.exit ?_ | refine Wp.label ?_ | refine Wp.condG ?_) | simp (disch := omega) only [↓RP, RQ, TS, TR, ↓reduceIte, Nat.reduceEqDiff, Nat.reduceLT, Nat.reduceLeDiff, Int.reduceLT, Int.reduceLE, Int.reduceEq, Int.reduceAdd, Int.reduceSub, Int.reduceNeg, Int.reduceToNat, Nat.reduceAdd, Nat.reduceMul, Nat.reduceSub, reduceCtorEq, RC, Int.cast_ofNat_Int, hn, g2, g3, g10, g11, g12]
  refine condW_split (fun h => ?_) (fun h => ?_)
  · repeat first | (with_reducible first | refine Wp.seq ?_ | refine Wp.reg ?_ | refine Wp.block ?_ | refine Wp.skip ?_ | refine Wp.ret ?_ | refine Wp.exit ?_ | refine Wp.label ?_ | refine Wp.condG ?_) | simp (disch := omega) only [↓RP, RQ, TS, TR, ↓reduceIte, Nat.reduceEqDiff, Nat.reduceLT, Nat.reduceLeDiff, Int.reduceLT, Int.reduceLE, Int.reduceEq, Int.reduceAdd, Int.reduceSub, Int.reduceNeg, Int.reduceToNat, Nat.reduceAdd, Nat.reduceMul, Nat.reduceSub, reduceCtorEq, RC, Int.cast_ofNat_Int, hn, g2, g3, g10, g11, g12, hv1.idx, hv1.ldA (0, 0)]
    refine hS.eNew 2 [I 0, I 0] rfl rfl rfl tS48 fun D H5 hS => ?_
    repeat first | (with_reducible first | refine Wp.seq ?_ | refine Wp.reg ?_ | refine Wp.block ?_ | refine Wp.skip ?_ | refine Wp.ret ?_ | refine Wp.exit ?_ | refine Wp.label ?_ | refine Wp.condG ?_) | simp (disch := omega) only [↓RP, RQ, TS, TR, ↓reduceIte, Nat.reduceEqDiff, Nat.reduceLT, Nat.reduceLeDiff, Int.reduceLT, Int.reduceLE, Int.reduceEq, Int.reduceAdd, Int.reduceSub, Int.reduceNeg, Int.reduceToNat, Nat.reduceAdd, Nat.reduceMul, Nat.reduceSub, reduceCtorEq, RC, Int.cast_ofNat_Int, hn, g2, g3, g10, g11, g12]
    refine hS.eStore 4 rfl [_, _] rfl rfl tS48 (by simp) fun H6 hS => ?_
    simp only [List.nil_append, List.cons_append, List.append_nil, List.set_cons_zero, List.set_cons_succ, setMany_cons, setMany_nil, Nat.zero_add, Nat.mul_one, Nat.add_zero] at hS
    repeat first | (with_reducible first | refine Wp.seq ?_ | refine Wp.reg ?_ | refine Wp.block ?_ | refine Wp.skip ?_ | refine Wp.ret ?_ | refine Wp.exit ?_ | refine Wp.label ?_ | refine Wp.condG ?_) | simp (disch := omega) only [↓RP, RQ, TS, TR, ↓reduceIte, Nat.reduceEqDiff, Nat.reduceLT, Nat.reduceLeDiff, Int.reduceLT, Int.reduceLE, Int.reduceEq, Int.reduceAdd, Int.reduceSub, Int.reduceNeg, Int.reduceToNat, Nat.reduceAdd, Nat.reduceMul, Nat.reduceSub, reduceCtorEq, RC, Int.cast_ofNat_Int, hn, g2, g3, g10, g11, g12, hS.ld 2 rfl, hS.ld 4 rfl]
    refine hS.eSlice [I _, I _] tP25 tF25 rfl rfl (by simp [Value.cells]) rfl rfl (by decide) (by decide) fun x H7 hS => ?_
    repeat first | (with_reducible first | refine Wp.seq ?_ | refine Wp.reg ?_ | refine Wp.block ?_ | refine Wp.skip ?_ | refine Wp.ret ?_ | refine Wp.exit ?_ | refine Wp.label ?_ | refine Wp.condG ?_) | simp (disch := omega) only [↓RP, RQ, TS, TR, ↓reduceIte, Nat.reduceEqDiff, Nat.reduceLT, Nat.reduceLeDiff, Int.reduceLT, Int.reduceLE, Int.reduceEq, Int.reduceAdd, Int.reduceSub, Int.reduceNeg, Int.reduceToNat, Nat.reduceAdd, Nat.reduceMul, Nat.reduceSub, reduceCtorEq, RC, Int.cast_ofNat_Int, hn, g2, g3, g10, g11, g12]
    refine hS.eAppend 3 rfl (hS.rd 5 rfl) tP25 (by simp only [eg_length, tE, List.length_map, List.length_take, List.length_cons, List.length_nil]; omega) fun w' H8 hS => ?_
    have hw := (hS.rd 3 rfl).cells
    repeat first | (with_reducible first | refine Wp.seq ?_ | refine Wp.reg ?_ | refine Wp.block ?_ | refine Wp.skip ?_ | refine Wp.ret ?_ | refine Wp.exit ?_ | refine Wp.label ?_ | refine Wp.condG ?_) | simp (disch := omega) only [↓RP, RQ, TS, TR, ↓reduceIte, Nat.reduceEqDiff, Nat.reduceLT, Nat.reduceLeDiff, Int.reduceLT, Int.reduceLE, Int.reduceEq, Int.reduceAdd, Int.reduceSub, Int.reduceNeg, Int.reduceToNat, Nat.reduceAdd, Nat.reduceMul, Nat.reduceSub, reduceCtorEq, RC, Int.cast_ofNat_Int, hn, g2, g3, g10, g11, g12]
    refine hS.eStore 2 rfl [w'] (by rw [hw.1]) (by simp [hw.2.1]) tS25 (by simp) fun H9 hS => ?_
    simp only [List.nil_append, List.cons_append, List.append_nil, List.set_cons_zero, List.set_cons_succ, setMany_cons, setMany_nil, Nat.zero_add, Nat.mul_one, Nat.add_zero] at hS
    repeat first | (with_reducible first | refine Wp.seq ?_ | refine Wp.reg ?_ | refine Wp.block ?_ | refine Wp.skip ?_ | refine Wp.ret ?_ | refine Wp.exit ?_ | refine Wp.label ?_ | refine Wp.condG ?_) | simp (disch := omega) only [↓RP, RQ, TS, TR, ↓reduceIte, Nat.reduceEqDiff, Nat.reduceLT, Nat.reduceLeDiff, Int.reduceLT, Int.reduceLE, Int.reduceEq, Int.reduceAdd, Int.reduceSub, Int.reduceNeg, Int.reduceToNat, Nat.reduceAdd, Nat.reduceMul, Nat.reduceSub, reduceCtorEq, RC, Int.cast_ofNat_Int, hn, g2, g3, g10, g11, g12, wrap_fit]
    refine ⟨n - 1, by omega, i + 1, w', by omega, rfl, ?_⟩
    have e : tE (es.take (i + 1)) = tE (es.take i) ++ [((es.getD i (0, 0)).2, (es.getD i (0, 0)).1)] := by
      rw [take_succ_getD es i (0, 0) (by omega)]
      simp only [tE, List.map_append, List.map_cons, List.map_nil]
    rw [e, eg, List.flatMap_append]
    exact hS.sub (by simp)
  · have hw := (hS.rd 3 rfl).cells
    repeat first | (with_reducible first | refine Wp.seq ?_ | refine Wp.reg ?_ | refine Wp.block ?_ | refine Wp.skip ?_ | refine Wp.ret ?_ | refine Wp.exit ?_ | refine Wp.label ?_ | refine Wp.condG ?_) | simp (disch := omega) only [↓RP, RQ, TS, TR, ↓reduceIte, Nat.reduceEqDiff, Nat.reduceLT, Nat.reduceLeDiff, Int.reduceLT, Int.reduceLE, Int.reduceEq, Int.reduceAdd, Int.reduceSub, Int.reduceNeg, Int.reduceToNat, Nat.reduceAdd, Nat.reduceMul, Nat.reduceSub, reduceCtorEq, RC, Int.cast_ofNat_Int, hn, g2, g3, g10, g11, g12, hS.ldA 2 rfl]
    refine hS.eStore 1 rfl [I N, w] rfl (by simp [hw.2.1]; rfl) tS27 (by simp) fun H6 hS => ?_
    simp only [List.nil_append, List.cons_append, List.append_nil, List.set_cons_zero, List.set_cons_succ, setMany_cons, setMany_nil, Nat.zero_add, Nat.mul_one, Nat.add_zero] at hS
    repeat first | (with_reducible first | refine Wp.seq ?_ | refine Wp.reg ?_ | refine Wp.block ?_ | refine Wp.skip ?_ | refine Wp.ret ?_ | refine Wp.exit ?_ | refine Wp.label ?_ | refine Wp.condG ?_) | simp (disch := omega) only [↓RP, RQ, TS, TR, ↓reduceIte, Nat.reduceEqDiff, Nat.reduceLT, Nat.reduceLeDiff, Int.reduceLT, Int.reduceLE, Int.reduceEq, Int.reduceAdd, Int.reduceSub, Int.reduceNeg, Int.reduceToNat, Nat.reduceAdd, Nat.reduceMul, Nat.reduceSub, reduceCtorEq, RC, Int.cast_ofNat_Int, hn, g2, g3, g10, g11, g12, hS.ldA 1 rfl]
    refine ⟨w, rfl, ?_⟩
    have e : es.take i = es := List.take_of_length_le (by omega)
    rw [e] at hS
    exact hS.sub (.cons _ (.cons _ (.cons _ (.cons_cons _ (.refl _)))))

theorem reverse_ok (N : Nat) (v : Value) (es : List (Nat × Nat)) (hv : Eg H v es) (hN : N ≤ 200) (he : es.length ≤ 1000) (hval : ∀ e ∈ es, e.1 < N ∧ e.2 < N) :
    Fn Try.prog 28 [.agg #[I N, v]] H fun r H' => ∃ w, r = .tuple #[.agg #[I N, w], I 0] ∧ St Try.prog H H' [⟨w, 2, eg (tE es)⟩] := by
  refine Fn.of_wp (fn := Try.f28) rfl rfl (by kernel_rfl) fun l hl => ?_
  have hn : l.length = 13 := by rw [hl]; rfl
  have g0 : get l 0 = .agg #[I N, v] := by rw [hl]; rfl
  clear hl
  repeat first | (with_reducible first | refine Wp.seq ?_ | refine Wp.reg ?_ | refine Wp.block ?_ | refine Wp.skip ?_ | refine Wp.ret ?_ | refine Wp.exit ?_ | refine Wp.label ?_ | refine Wp.condG ?_) | simp (disch := omega) only [↓RP, RQ, TS, TR, ↓reduceIte, Nat.reduceEqDiff, Nat.reduceLT, Nat.reduceLeDiff, Int.reduceLT, Int.reduceLE, Int.reduceEq, Int.reduceAdd, Int.reduceSub, Int.reduceNeg, Int.reduceToNat, Nat.reduceAdd, Nat.reduceMul, Nat.reduceSub, reduceCtorEq, RC, Int.cast_ofNat_Int, hn, g0]
  refine (St.refl _ H).eNew 2 [I N, v] rfl rfl (by simp [hv.one]; rfl) tS27 fun A H1 hS => ?_
  repeat first | (with_reducible first | refine Wp.seq ?_ | refine Wp.reg ?_ | refine Wp.block ?_ | refine Wp.skip ?_ | refine Wp.ret ?_ | refine Wp.exit ?_ | refine Wp.label ?_ | refine Wp.condG ?_) | simp (disch := omega) only [↓RP, RQ, TS, TR, ↓reduceIte, Nat.reduceEqDiff, Nat.reduceLT, Nat.reduceLeDiff, Int.reduceLT, Int.reduceLE, Int.reduceEq, Int.reduceAdd, Int.reduceSub, Int.reduceNeg, Int.reduceToNat, Nat.reduceAdd, Nat.reduceMul, Nat.reduceSub, reduceCtorEq, RC, Int.cast_ofNat_Int, hn, g0]
  refine hS.eNew 2 [I 0, .slice none 0 0] rfl rfl rfl tS27 fun R H2 hS => ?_
  repeat first | (with_reducible first | refine Wp.seq ?_ | refine Wp.reg ?_ | refine Wp.block ?_ | refine Wp.skip ?_ | refine Wp.ret ?_ | refine Wp.exit ?_ | refine Wp.label ?_ | refine Wp.condG ?_) | simp (disch := omega) only [↓RP, RQ, TS, TR, ↓reduceIte, Nat.reduceEqDiff, Nat.reduceLT, Nat.reduceLeDiff, Int.reduceLT, Int.reduceLE, Int.reduceEq, Int.reduceAdd, Int.reduceSub, Int.reduceNeg, Int.reduceToNat, Nat.reduceAdd, Nat.reduceMul, Nat.reduceSub, reduceCtorEq, RC, Int.cast_ofNat_Int, hn, g0, hS.ldA 0 rfl]
  refine callFW_of (check_ok N v es (hS.base hv) hN he hval) ?_
  rintro r H3 ⟨rfl, hS2⟩
  have hS := hS.trans hS2
  simp only [List.nil_append, List.cons_append, List.append_nil, List.set_cons_zero, List.set_cons_succ, setMany_cons, setMany_nil, Nat.zero_add, Nat.mul_one, Nat.add_zero] at hS
  repeat first | (with_reducible first | refine Wp.seq ?_ | refine Wp.reg ?_ | refine Wp.block ?_ | refine Wp.skip ?_ | refine Wp.ret ?_ | refine Wp.exit ?_ | refine Wp.label ?_ | refine Wp.condG ?_) | simp (disch := omega) only [↓RP, RQ, TS, TR, ↓reduceIte, Nat.reduceEqDiff, Nat.reduceLT, Nat.reduceLeDiff, Int.reduceLT, Int.reduceLE, Int.reduceEq, Int.reduceAdd, Int.reduceSub, Int.reduceNeg, Int.reduceToNat, Nat.reduceAdd, Nat.reduceMul, Nat.reduceSub, reduceCtorEq, RC, Int.cast_ofNat_Int, hn, g0, hS.ldA 0 rfl]
  refine callFW_of (turned2_ok N v es (hS.base hv) he) ?_
  rintro r H4 ⟨w, rfl, hS2⟩
  have hS := hS.trans hS2
  simp only [List.nil_append, List.cons_append, List.append_nil, List.set_cons_zero, List.set_cons_succ, setMany_cons, setMany_nil, Nat.zero_add, Nat.mul_one, Nat.add_zero] at hS
  have hw := (hS.rd 2 rfl).cells
  repeat first | (with_reducible first | refine Wp.seq ?_ | refine Wp.reg ?_ | refine Wp.block ?_ | refine Wp.skip ?_ | refine Wp.ret ?_ | refine Wp.exit ?_ | refine Wp.label ?_ | refine Wp.condG ?_) | simp (disch := omega) only [↓RP, RQ, TS, TR, ↓reduceIte, Nat.reduceEqDiff, Nat.reduceLT, Nat.reduceLeDiff, Int.reduceLT, Int.reduceLE, Int.reduceEq, Int.reduceAdd, Int.reduceSub, Int.reduceNeg, Int.reduceToNat, Nat.reduceAdd, Nat.reduceMul, Nat.reduceSub, reduceCtorEq, RC, Int.cast_ofNat_Int, hn, g0]
  refine hS.eStore 1 rfl [I N, w] rfl (by simp [hw.2.1]; rfl) tS27 (by simp) fun H5 hS => ?_
  simp only [List.nil_append, List.cons_append, List.append_nil, List.set_cons_zero, List.set_cons_succ, setMany_cons, setMany_nil, Nat.zero_add, Nat.mul_one, Nat.add_zero] at hS
  repeat first | (with_reducible first | refine Wp.seq ?_ | refine Wp.reg ?_ | refine Wp.block ?_ | refine Wp.skip ?_ | refine Wp.ret ?_ | refine Wp.exit ?_ | refine Wp.label ?_ | refine Wp.condG ?_) | simp (disch := omega) only [↓RP, RQ, TS, TR, ↓reduceIte, Nat.reduceEqDiff, Nat.reduceLT, Nat.reduceLeDiff, Int.reduceLT, Int.reduceLE, Int.reduceEq, Int.reduceAdd, Int.reduceSub, Int.reduceNeg, Int.reduceToNat, Nat.reduceAdd, Nat.reduceMul, Nat.reduceSub, reduceCtorEq, RC, Int.cast_ofNat_Int, hn, g0, tR28, hS.ldA 1 rfl]
  exact ⟨w, rfl, hS.sub (.cons _ (.cons _ (.cons_cons _ (.refl _))))⟩
end Go.Ds
/-
  Contracts: Check, with, for any graph; the law's own check.
-/
namespace Go.Ds
open Go.Proofs Go.Plain
variable {H : Heap}

/-- A slice of edges by any numbers. -/
def EgZ (H : Heap) (v : Value) (es : List (Int × Int)) : Prop := Sl2 H v (fun e => I e.1) (fun e => I e.2) es

def inN (N x : Int) : Bool := decide (0 ≤ x ∧ x < N)
def okE (N : Int) (e : Int × Int) : Bool := inN N e.1 && inN N e.2
/-- The error of a graph. -/
def chk (N : Int) (es : List (Int × Int)) : Int := if N < 0 then 3 else if 200 < N ∨ 1000 < es.length then 4 else if es.all (okE N) = true then 0 else 10

theorem checkZ_ok (N : Int) (v : Value) (es : List (Int × Int)) (hv : EgZ H v es) (he : es.length < 1000000) : Fn Try.prog 35 [.agg #[I N, v]] H fun r H' => r = I (chk N es) ∧ St Try.prog H H' [] := by
  refine Fn.of_wp (fn := Try.f35) rfl rfl (by kernel_rfl) fun l hl => ?_
  have hn : l.length = 39 := by rw [hl]; rfl
  have g0 : get l 0 = .agg #[I N, v] := by rw [hl]; rfl
  clear hl
  repeat first | (with_reducible first | refine Wp.seq ?_ | refine Wp.reg ?_ | refine Wp.block ?_ | refine Wp.skip ?_ | refine Wp.ret ?_ | refine Wp.exit ?_ | refine Wp.label ?_ | refine Wp.condG ?_) | simp (disch := omega) only [↓RP, RQ, TS, TR, ↓reduceIte, Nat.reduceEqDiff, Nat.reduceLT, Nat.reduceLeDiff, Int.reduceLT, Int.reduceLE, Int.reduceEq, Int.reduceAdd, Int.reduceSub, Int.reduceNeg, Int.reduceToNat, Nat.reduceAdd, Nat.reduceMul, Nat.reduceSub, reduceCtorEq, RC, Int.cast_ofNat_Int, hn, g0]
  refine (St.refl _ H).eNew 2 [I N, v] rfl rfl (by simp [RdAt.one hv]; rfl) tS27 fun A H1 hS => ?_
  repeat first | (with_reducible first | refine Wp.seq ?_ | refine Wp.reg ?_ | refine Wp.block ?_ | refine Wp.skip ?_ | refine Wp.ret ?_ | refine Wp.exit ?_ | refine Wp.label ?_ | refine Wp.condG ?_) | simp (disch := omega) only [↓RP, RQ, TS, TR, ↓reduceIte, Nat.reduceEqDiff, Nat.reduceLT, Nat.reduceLeDiff, Int.reduceLT, Int.reduceLE, Int.reduceEq, Int.reduceAdd, Int.reduceSub, Int.reduceNeg, Int.reduceToNat, Nat.reduceAdd, Nat.reduceMul, Nat.reduceSub, reduceCtorEq, RC, Int.cast_ofNat_Int, hn, g0, hS.ld 0 rfl]
  refine condW_split (fun h => ?_) (fun h => ?_)
  · repeat first | (with_reducible first | refine Wp.seq ?_ | refine Wp.reg ?_ | refine Wp.block ?_ | refine Wp.skip ?_ | refine Wp.ret ?_ | refine Wp.exit ?_ | refine Wp.label ?_ | refine Wp.condG ?_) | simp (disch := omega) only [↓RP, RQ, TS, TR, ↓reduceIte, Nat.reduceEqDiff, Nat.reduceLT, Nat.reduceLeDiff, Int.reduceLT, Int.reduceLE, Int.reduceEq, Int.reduceAdd, Int.reduceSub, Int.reduceNeg, Int.reduceToNat, Nat.reduceAdd, Nat.reduceMul, Nat.reduceSub, reduceCtorEq, RC, Int.cast_ofNat_Int, hn, g0]
    exact ⟨by unfold chk; rw [if_pos h], hS.forget⟩
  have hv1 : Sl2 H1 v _ _ es := hS.base hv
  repeat first | (with_reducible first | refine Wp.seq ?_ | refine Wp.reg ?_ | refine Wp.block ?_ | refine Wp.skip ?_ | refine Wp.ret ?_ | refine Wp.exit ?_ | refine Wp.label ?_ | refine Wp.condG ?_) | simp (disch := omega) only [↓RP, RQ, TS, TR, ↓reduceIte, Nat.reduceEqDiff, Nat.reduceLT, Nat.reduceLeDiff, Int.reduceLT, Int.reduceLE, Int.reduceEq, Int.reduceAdd, Int.reduceSub, Int.reduceNeg, Int.reduceToNat, Nat.reduceAdd, Nat.reduceMul, Nat.reduceSub, reduceCtorEq, RC, Int.cast_ofNat_Int, hn, g0, hS.ld 0 rfl]
  refine letG_split' (fun h2 => ?_) (fun h2 => ?_)
  · repeat first | (with_reducible first | refine Wp.seq ?_ | refine Wp.reg ?_ | refine Wp.block ?_ | refine Wp.skip ?_ | refine Wp.ret ?_ | refine Wp.exit ?_ | refine Wp.label ?_ | refine Wp.condG ?_) | simp (disch := omega) only [↓RP, RQ, TS, TR, ↓reduceIte, Nat.reduceEqDiff, Nat.reduceLT, Nat.reduceLeDiff, Int.reduceLT, Int.reduceLE, Int.reduceEq, Int.reduceAdd, Int.reduceSub, Int.reduceNeg, Int.reduceToNat, Nat.reduceAdd, Nat.reduceMul, Nat.reduceSub, reduceCtorEq, RC, Int.cast_ofNat_Int, hn, g0, h2]
    exact ⟨by unfold chk; rw [if_neg h, if_pos (.inl h2)], hS.forget⟩
  repeat first | (with_reducible first | refine Wp.seq ?_ | refine Wp.reg ?_ | refine Wp.block ?_ | refine Wp.skip ?_ | refine Wp.ret ?_ | refine Wp.exit ?_ | refine Wp.label ?_ | refine Wp.condG ?_) | simp (disch := omega) only [↓RP, RQ, TS, TR, ↓reduceIte, Nat.reduceEqDiff, Nat.reduceLT, Nat.reduceLeDiff, Int.reduceLT, Int.reduceLE, Int.reduceEq, Int.reduceAdd, Int.reduceSub, Int.reduceNeg, Int.reduceToNat, Nat.reduceAdd, Nat.reduceMul, Nat.reduceSub, reduceCtorEq, RC, Int.cast_ofNat_Int, hn, g0, hS.ld 0 rfl, hv1.len, h2]
  refine condW_split (fun h3 => ?_) (fun h3 => ?_)
  · repeat first | (with_reducible first | refine Wp.seq ?_ | refine Wp.reg ?_ | refine Wp.block ?_ | refine Wp.skip ?_ | refine Wp.ret ?_ | refine Wp.exit ?_ | refine Wp.label ?_ | refine Wp.condG ?_) | simp (disch := omega) only [↓RP, RQ, TS, TR, ↓reduceIte, Nat.reduceEqDiff, Nat.reduceLT, Nat.reduceLeDiff, Int.reduceLT, Int.reduceLE, Int.reduceEq, Int.reduceAdd, Int.reduceSub, Int.reduceNeg, Int.reduceToNat, Nat.reduceAdd, Nat.reduceMul, Nat.reduceSub, reduceCtorEq, RC, Int.cast_ofNat_Int, hn, g0]
    exact ⟨by unfold chk; rw [if_neg h, if_pos (.inr (by omega))], hS.forget⟩
  repeat first | (with_reducible first | refine Wp.seq ?_ | refine Wp.reg ?_ | refine Wp.block ?_ | refine Wp.skip ?_ | refine Wp.ret ?_ | refine Wp.exit ?_ | refine Wp.label ?_ | refine Wp.condG ?_) | simp (disch := omega) only [↓RP, RQ, TS, TR, ↓reduceIte, Nat.reduceEqDiff, Nat.reduceLT, Nat.reduceLeDiff, Int.reduceLT, Int.reduceLE, Int.reduceEq, Int.reduceAdd, Int.reduceSub, Int.reduceNeg, Int.reduceToNat, Nat.reduceAdd, Nat.reduceMul, Nat.reduceSub, reduceCtorEq, RC, Int.cast_ofNat_Int, hn, g0, hS.ld 0 rfl, hv1.len]
  have hch : chk N es = if es.all (okE N) = true then 0 else 10 := by unfold chk; rw [if_neg h, if_neg (by omega)]
  refine Wp.loopN (fun n l H' => St Try.prog H H' [⟨ptr A 0 2, 0, [I N, v]⟩] ∧ l.length = 39 ∧ get l 1 = ptr A 0 2 ∧ get l 20 = v ∧ get l 21 = I es.length ∧ ∃ i : Nat, n + i = es.length ∧ get l 22 = I i ∧ ∀ j, j < i → okE N (es.getD j (0, 0)) = true) es.length ?_ ?_
  · simp (disch := omega) only [↓RP, RQ, TS, TR, ↓reduceIte, Nat.reduceEqDiff, Nat.reduceLT, Nat.reduceLeDiff, Int.reduceLT, Int.reduceLE, Int.reduceEq, Int.reduceAdd, Int.reduceSub, Int.reduceNeg, Int.reduceToNat, Nat.reduceAdd, Nat.reduceMul, Nat.reduceSub, reduceCtorEq, RC, Int.cast_ofNat_Int, hn]
    exact ⟨hS, 0, rfl, rfl, fun j hj => absurd hj (Nat.not_lt_zero _)⟩
  clear hS hn g0 h h2 h3 hv1
  rintro n l H' ⟨hS, hn, g1, g20, g21, i, hi, g22, hok⟩
  have hv1 : Sl2 H' v _ _ es := hS.base hv
  repeat first | (with_reducible first | refine Wp.seq ?_ | refine Wp.reg ?_ | refine Wp.block ?_ | refine Wp.skip ?_ | refine Wp.ret ?_ | refine Wp.exit ?_ | refine Wp.label ?_ | refine Wp.condG ?_) | simp (disch := omega) only [↓RP, RQ, TS, TR, ↓reduceIte, Nat.reduceEqDiff, Nat.reduceLT, Nat.reduceLeDiff, Int.reduceLT, Int.reduceLE, Int.reduceEq, Int.reduceAdd, Int.reduceSub, Int.reduceNeg, Int.reduceToNat, Nat.reduceAdd, Nat.reduceMul, Nat.reduceSub, reduceCtorEq, RC, Int.cast_ofNat_Int, hn, g1, g20, g21, g22]
  refine condW_split (fun h3 => ?_) (fun h3 => ?_)
  · have hil : i < es.length := by omega
    repeat first | (with_reducible first | refine Wp.seq ?_ | refine Wp.reg ?_ | refine Wp.block ?_ | refine Wp.skip ?_ | refine Wp.ret ?_ | refine Wp.exit ?_ | refine Wp.label ?_ | refine Wp.condG ?_) | simp (disch := omega) only [↓RP, RQ, TS, TR, ↓reduceIte, Nat.reduceEqDiff, Nat.reduceLT, Nat.reduceLeDiff, Int.reduceLT, Int.reduceLE, Int.reduceEq, Int.reduceAdd, Int.reduceSub, Int.reduceNeg, Int.reduceToNat, Nat.reduceAdd, Nat.reduceMul, Nat.reduceSub, reduceCtorEq, RC, Int.cast_ofNat_Int, hn, g1, g20, g21, g22, hv1.idx, hv1.ldA (0, 0)]
    refine hS.eNew 2 [I 0, I 0] rfl rfl rfl tS48 fun B H1 hS => ?_
    repeat first | (with_reducible first | refine Wp.seq ?_ | refine Wp.reg ?_ | refine Wp.block ?_ | refine Wp.skip ?_ | refine Wp.ret ?_ | refine Wp.exit ?_ | refine Wp.label ?_ | refine Wp.condG ?_) | simp (disch := omega) only [↓RP, RQ, TS, TR, ↓reduceIte, Nat.reduceEqDiff, Nat.reduceLT, Nat.reduceLeDiff, Int.reduceLT, Int.reduceLE, Int.reduceEq, Int.reduceAdd, Int.reduceSub, Int.reduceNeg, Int.reduceToNat, Nat.reduceAdd, Nat.reduceMul, Nat.reduceSub, reduceCtorEq, RC, Int.cast_ofNat_Int, hn, g1, g20, g21, g22]
    refine hS.eStore 1 rfl [_, _] rfl rfl tS48 (by simp) fun H2 hS => ?_
    repeat first | (with_reducible first | refine Wp.seq ?_ | refine Wp.reg ?_ | refine Wp.block ?_ | refine Wp.skip ?_ | refine Wp.ret ?_ | refine Wp.exit ?_ | refine Wp.label ?_ | refine Wp.condG ?_) | simp (disch := omega) only [↓RP, RQ, TS, TR, ↓reduceIte, Nat.reduceEqDiff, Nat.reduceLT, Nat.reduceLeDiff, Int.reduceLT, Int.reduceLE, Int.reduceEq, Int.reduceAdd, Int.reduceSub, Int.reduceNeg, Int.reduceToNat, Nat.reduceAdd, Nat.reduceMul, Nat.reduceSub, reduceCtorEq, RC, Int.cast_ofNat_Int, hn, g1, g20, g21, g22, hS.ldA 0 rfl, hS.ld 0 rfl, hS.ld 1 rfl]
    have hbad : okE N (es.getD i (0, 0)) = false → chk N es = 10 := fun hb => by
      rw [hch, if_neg]
      intro ha
      rw [List.all_eq_true] at ha
      have := ha _ (getD_mem (0, 0) hil)
      rw [hb] at this
      cases this
    refine callFW_of (has_ok N _ v (RdAt.one hv1)) ?_
    rintro r H3 ⟨rfl, hS3⟩
    have hS := hS.trans hS3
    cases h1 : inN N (es.getD i (0, 0)).1 with
    | false =>
      have d1 : decide (0 ≤ (es.getD i (0, 0)).1 ∧ (es.getD i (0, 0)).1 < N) = false := h1
      repeat first | (with_reducible first | refine Wp.seq ?_ | refine Wp.reg ?_ | refine Wp.block ?_ | refine Wp.skip ?_ | refine Wp.ret ?_ | refine Wp.exit ?_ | refine Wp.label ?_ | refine Wp.condG ?_) | simp (disch := omega) only [↓RP, RQ, TS, TR, ↓reduceIte, Nat.reduceEqDiff, Nat.reduceLT, Nat.reduceLeDiff, Int.reduceLT, Int.reduceLE, Int.reduceEq, Int.reduceAdd, Int.reduceSub, Int.reduceNeg, Int.reduceToNat, Nat.reduceAdd, Nat.reduceMul, Nat.reduceSub, reduceCtorEq, RC, Int.cast_ofNat_Int, hn, g1, g20, g21, g22, d1]
      exact ⟨by rw [hbad (by unfold okE; rw [h1]; rfl)], hS.forget⟩
    | true =>
      have d1 : decide (0 ≤ (es.getD i (0, 0)).1 ∧ (es.getD i (0, 0)).1 < N) = true := h1
      repeat first | (with_reducible first | refine Wp.seq ?_ | refine Wp.reg ?_ | refine Wp.block ?_ | refine Wp.skip ?_ | refine Wp.ret ?_ | refine Wp.exit ?_ | refine Wp.label ?_ | refine Wp.condG ?_) | simp (disch := omega) only [↓RP, RQ, TS, TR, ↓reduceIte, Nat.reduceEqDiff, Nat.reduceLT, Nat.reduceLeDiff, Int.reduceLT, Int.reduceLE, Int.reduceEq, Int.reduceAdd, Int.reduceSub, Int.reduceNeg, Int.reduceToNat, Nat.reduceAdd, Nat.reduceMul, Nat.reduceSub, reduceCtorEq, RC, Int.cast_ofNat_Int, hn, g1, g20, g21, g22, d1, hS.ldA 0 rfl, hS.ld 0 rfl, hS.ld 1 rfl]
      refine callFW_of (has_ok N _ v (RdAt.one hv1)) ?_
      rintro r H4 ⟨rfl, hS4⟩
      have hS := hS.trans hS4
      cases h2 : inN N (es.getD i (0, 0)).2 with
      | false =>
        have d2 : decide (0 ≤ (es.getD i (0, 0)).2 ∧ (es.getD i (0, 0)).2 < N) = false := h2
        repeat first | (with_reducible first | refine Wp.seq ?_ | refine Wp.reg ?_ | refine Wp.block ?_ | refine Wp.skip ?_ | refine Wp.ret ?_ | refine Wp.exit ?_ | refine Wp.label ?_ | refine Wp.condG ?_) | simp (disch := omega) only [↓RP, RQ, TS, TR, ↓reduceIte, Nat.reduceEqDiff, Nat.reduceLT, Nat.reduceLeDiff, Int.reduceLT, Int.reduceLE, Int.reduceEq, Int.reduceAdd, Int.reduceSub, Int.reduceNeg, Int.reduceToNat, Nat.reduceAdd, Nat.reduceMul, Nat.reduceSub, reduceCtorEq, RC, Int.cast_ofNat_Int, hn, g1, g20, g21, g22, d2]
        exact ⟨by rw [hbad (by unfold okE; rw [h1, h2]; rfl)], hS.forget⟩
      | true =>
        have d2 : decide (0 ≤ (es.getD i (0, 0)).2 ∧ (es.getD i (0, 0)).2 < N) = true := h2
        repeat first | (with_reducible first | refine Wp.seq ?_ | refine Wp.reg ?_ | refine Wp.block ?_ | refine Wp.skip ?_ | refine Wp.ret ?_ | refine Wp.exit ?_ | refine Wp.label ?_ | refine Wp.condG ?_) | simp (disch := omega) only [↓RP, RQ, TS, TR, ↓reduceIte, Nat.reduceEqDiff, Nat.reduceLT, Nat.reduceLeDiff, Int.reduceLT, Int.reduceLE, Int.reduceEq, Int.reduceAdd, Int.reduceSub, Int.reduceNeg, Int.reduceToNat, Nat.reduceAdd, Nat.reduceMul, Nat.reduceSub, reduceCtorEq, RC, Int.cast_ofNat_Int, hn, g1, g20, g21, g22, d2, wrap_fit]
        refine ⟨n - 1, by omega, hS.sub (by simp), i + 1, by omega, rfl, fun j hj => ?_⟩
        by_cases e : j = i
        · subst e; unfold okE; rw [h1, h2]; rfl
        · exact hok j (by omega)
  · repeat first | (with_reducible first | refine Wp.seq ?_ | refine Wp.reg ?_ | refine Wp.block ?_ | refine Wp.skip ?_ | refine Wp.ret ?_ | refine Wp.exit ?_ | refine Wp.label ?_ | refine Wp.condG ?_) | simp (disch := omega) only [↓RP, RQ, TS, TR, ↓reduceIte, Nat.reduceEqDiff, Nat.reduceLT, Nat.reduceLeDiff, Int.reduceLT, Int.reduceLE, Int.reduceEq, Int.reduceAdd, Int.reduceSub, Int.reduceNeg, Int.reduceToNat, Nat.reduceAdd, Nat.reduceMul, Nat.reduceSub, reduceCtorEq, RC, Int.cast_ofNat_Int, hn]
    refine ⟨?_, hS.forget⟩
    rw [hch, if_pos]
    rw [List.all_eq_true]
    intro x hx
    obtain ⟨j, hj, rfl⟩ := List.mem_iff_getElem.1 hx
    have := hok j (by omega)
    rwa [List.getD_eq_getElem?_getD, List.getElem?_eq_getElem hj] at this

/-- What a node that there is not adds. -/
def chk2 (N : Int) (es : List (Int × Int)) (xs : List Int) : Int := if chk N es ≠ 0 then chk N es else if xs.all (inN N) = true then 0 else 10

theorem withZ_ok (N : Int) (v : Value) (es : List (Int × Int)) (hv : EgZ H v es) (he : es.length < 1000000) (w : Value) (xs : List Int) (hw : Sl1 H w (.int .i64) xs) (hx : xs.length < 1000) :
    Fn Try.prog 37 [.agg #[I N, v], w] H fun r H' => r = I (chk2 N es xs) ∧ St Try.prog H H' [] := by
  refine Fn.of_wp (fn := Try.f37) rfl rfl (by kernel_rfl) fun l hl => ?_
  have hn : l.length = 15 := by rw [hl]; rfl
  have g0 : get l 0 = .agg #[I N, v] := by rw [hl]; rfl
  have g1 : get l 1 = w := by rw [hl]; rfl
  clear hl
  repeat first | (with_reducible first | refine Wp.seq ?_ | refine Wp.reg ?_ | refine Wp.block ?_ | refine Wp.skip ?_ | refine Wp.ret ?_ | refine Wp.exit ?_ | refine Wp.label ?_ | refine Wp.condG ?_) | simp (disch := omega) only [↓RP, RQ, TS, TR, ↓reduceIte, Nat.reduceEqDiff, Nat.reduceLT, Nat.reduceLeDiff, Int.reduceLT, Int.reduceLE, Int.reduceEq, Int.reduceAdd, Int.reduceSub, Int.reduceNeg, Int.reduceToNat, Nat.reduceAdd, Nat.reduceMul, Nat.reduceSub, reduceCtorEq, RC, Int.cast_ofNat_Int, hn, g0, g1]
  refine (St.refl _ H).eNew 2 [I N, v] rfl rfl (by simp [RdAt.one hv]; rfl) tS27 fun A H1 hS => ?_
  repeat first | (with_reducible first | refine Wp.seq ?_ | refine Wp.reg ?_ | refine Wp.block ?_ | refine Wp.skip ?_ | refine Wp.ret ?_ | refine Wp.exit ?_ | refine Wp.label ?_ | refine Wp.condG ?_) | simp (disch := omega) only [↓RP, RQ, TS, TR, ↓reduceIte, Nat.reduceEqDiff, Nat.reduceLT, Nat.reduceLeDiff, Int.reduceLT, Int.reduceLE, Int.reduceEq, Int.reduceAdd, Int.reduceSub, Int.reduceNeg, Int.reduceToNat, Nat.reduceAdd, Nat.reduceMul, Nat.reduceSub, reduceCtorEq, RC, Int.cast_ofNat_Int, hn, g0, g1, hS.ldA 0 rfl]
  refine callFW_of (checkZ_ok N v es (hS.base hv) he) ?_
  rintro r H2 ⟨rfl, hS2⟩
  have hS := hS.trans hS2
  repeat first | (with_reducible first | refine Wp.seq ?_ | refine Wp.reg ?_ | refine Wp.block ?_ | refine Wp.skip ?_ | refine Wp.ret ?_ | refine Wp.exit ?_ | refine Wp.label ?_ | refine Wp.condG ?_) | simp (disch := omega) only [↓RP, RQ, TS, TR, ↓reduceIte, Nat.reduceEqDiff, Nat.reduceLT, Nat.reduceLeDiff, Int.reduceLT, Int.reduceLE, Int.reduceEq, Int.reduceAdd, Int.reduceSub, Int.reduceNeg, Int.reduceToNat, Nat.reduceAdd, Nat.reduceMul, Nat.reduceSub, reduceCtorEq, RC, Int.cast_ofNat_Int, hn, g0, g1]
  refine condW_split (fun h => ?_) (fun h => ?_)
  · repeat first | (with_reducible first | refine Wp.seq ?_ | refine Wp.reg ?_ | refine Wp.block ?_ | refine Wp.skip ?_ | refine Wp.ret ?_ | refine Wp.exit ?_ | refine Wp.label ?_ | refine Wp.condG ?_) | simp (disch := omega) only [↓RP, RQ, TS, TR, ↓reduceIte, Nat.reduceEqDiff, Nat.reduceLT, Nat.reduceLeDiff, Int.reduceLT, Int.reduceLE, Int.reduceEq, Int.reduceAdd, Int.reduceSub, Int.reduceNeg, Int.reduceToNat, Nat.reduceAdd, Nat.reduceMul, Nat.reduceSub, reduceCtorEq, RC, Int.cast_ofNat_Int, hn, g0, g1]
    exact ⟨by unfold chk2; rw [if_pos h], hS.forget⟩
  repeat first | (with_reducible first | refine Wp.seq ?_ | refine Wp.reg ?_ | refine Wp.block ?_ | refine Wp.skip ?_ | refine Wp.ret ?_ | refine Wp.exit ?_ | refine Wp.label ?_ | refine Wp.condG ?_) | simp (disch := omega) only [↓RP, RQ, TS, TR, ↓reduceIte, Nat.reduceEqDiff, Nat.reduceLT, Nat.reduceLeDiff, Int.reduceLT, Int.reduceLE, Int.reduceEq, Int.reduceAdd, Int.reduceSub, Int.reduceNeg, Int.reduceToNat, Nat.reduceAdd, Nat.reduceMul, Nat.reduceSub, reduceCtorEq, RC, Int.cast_ofNat_Int, hn, g0, g1, hS.ldA 0 rfl]
  refine callFW_of (containsFunc_ok w _ (fun x => !decide (0 ≤ x ∧ x < N)) xs (hS.base hw) ?_ (by omega)) ?_
  · intro H3 hS3 x hx
    refine callW_fn ((with1_ok N x v (RdAt.one hv) A ?_).mono fun r H4 h => h)
    exact (hS.var 0 rfl).keep hS3.keep
  rintro r H3 ⟨rfl, hS3⟩
  have hS := hS.trans hS3
  have hf : (xs.any fun x : Int => !decide (0 ≤ x ∧ x < N)) = !(xs.all (inN N)) := by
    rw [List.all_eq_not_any_not, Bool.not_not]
    rfl
  have hch : chk2 N es xs = if xs.all (inN N) = true then 0 else 10 := by unfold chk2; rw [if_neg h]
  rw [hf]
  cases hb : xs.all (inN N) with
  | true =>
    rw [hb, if_pos rfl] at hch
    repeat first | (with_reducible first | refine Wp.seq ?_ | refine Wp.reg ?_ | refine Wp.block ?_ | refine Wp.skip ?_ | refine Wp.ret ?_ | refine Wp.exit ?_ | refine Wp.label ?_ | refine Wp.condG ?_) | simp (disch := omega) only [↓RP, RQ, TS, TR, ↓reduceIte, Nat.reduceEqDiff, Nat.reduceLT, Nat.reduceLeDiff, Int.reduceLT, Int.reduceLE, Int.reduceEq, Int.reduceAdd, Int.reduceSub, Int.reduceNeg, Int.reduceToNat, Nat.reduceAdd, Nat.reduceMul, Nat.reduceSub, reduceCtorEq, RC, Int.cast_ofNat_Int, hn, g0, g1]
    exact ⟨by rw [hch], hS.forget⟩
  | false =>
    rw [hb, if_neg (by decide)] at hch
    repeat first | (with_reducible first | refine Wp.seq ?_ | refine Wp.reg ?_ | refine Wp.block ?_ | refine Wp.skip ?_ | refine Wp.ret ?_ | refine Wp.exit ?_ | refine Wp.label ?_ | refine Wp.condG ?_) | simp (disch := omega) only [↓RP, RQ, TS, TR, ↓reduceIte, Nat.reduceEqDiff, Nat.reduceLT, Nat.reduceLeDiff, Int.reduceLT, Int.reduceLE, Int.reduceEq, Int.reduceAdd, Int.reduceSub, Int.reduceNeg, Int.reduceToNat, Nat.reduceAdd, Nat.reduceMul, Nat.reduceSub, reduceCtorEq, RC, Int.cast_ofNat_Int, hn, g0, g1]
    exact ⟨by rw [hch], hS.forget⟩

theorem lawCheck_ok (N : Int) (v : Value) (es : List (Int × Int)) (hv : EgZ H v es) (he : es.length < 1000000) : Fn Try.prog 34 [.agg #[I N, v]] H fun r H' => r = I (chk N es) ∧ St Try.prog H H' [] := by
  refine Fn.of_wp (fn := Try.f34) rfl rfl (by kernel_rfl) fun l hl => ?_
  have hn : l.length = 51 := by rw [hl]; rfl
  have g0 : get l 0 = .agg #[I N, v] := by rw [hl]; rfl
  clear hl
  repeat first | (with_reducible first | refine Wp.seq ?_ | refine Wp.reg ?_ | refine Wp.block ?_ | refine Wp.skip ?_ | refine Wp.ret ?_ | refine Wp.exit ?_ | refine Wp.label ?_ | refine Wp.condG ?_) | simp (disch := omega) only [↓RP, RQ, TS, TR, ↓reduceIte, Nat.reduceEqDiff, Nat.reduceLT, Nat.reduceLeDiff, Int.reduceLT, Int.reduceLE, Int.reduceEq, Int.reduceAdd, Int.reduceSub, Int.reduceNeg, Int.reduceToNat, Nat.reduceAdd, Nat.reduceMul, Nat.reduceSub, reduceCtorEq, RC, Int.cast_ofNat_Int, hn, g0]
  refine (St.refl _ H).eNew 2 [I N, v] rfl rfl (by simp [RdAt.one hv]; rfl) tS27 fun A H1 hS => ?_
  repeat first | (with_reducible first | refine Wp.seq ?_ | refine Wp.reg ?_ | refine Wp.block ?_ | refine Wp.skip ?_ | refine Wp.ret ?_ | refine Wp.exit ?_ | refine Wp.label ?_ | refine Wp.condG ?_) | simp (disch := omega) only [↓RP, RQ, TS, TR, ↓reduceIte, Nat.reduceEqDiff, Nat.reduceLT, Nat.reduceLeDiff, Int.reduceLT, Int.reduceLE, Int.reduceEq, Int.reduceAdd, Int.reduceSub, Int.reduceNeg, Int.reduceToNat, Nat.reduceAdd, Nat.reduceMul, Nat.reduceSub, reduceCtorEq, RC, Int.cast_ofNat_Int, hn, g0, hS.ld 0 rfl]
  refine condW_split (fun h => ?_) (fun h => ?_)
  · repeat first | (with_reducible first | refine Wp.seq ?_ | refine Wp.reg ?_ | refine Wp.block ?_ | refine Wp.skip ?_ | refine Wp.ret ?_ | refine Wp.exit ?_ | refine Wp.label ?_ | refine Wp.condG ?_) | simp (disch := omega) only [↓RP, RQ, TS, TR, ↓reduceIte, Nat.reduceEqDiff, Nat.reduceLT, Nat.reduceLeDiff, Int.reduceLT, Int.reduceLE, Int.reduceEq, Int.reduceAdd, Int.reduceSub, Int.reduceNeg, Int.reduceToNat, Nat.reduceAdd, Nat.reduceMul, Nat.reduceSub, reduceCtorEq, RC, Int.cast_ofNat_Int, hn, g0]
    exact ⟨by unfold chk; rw [if_pos h], hS.forget⟩
  have hv1 : Sl2 H1 v _ _ es := hS.base hv
  repeat first | (with_reducible first | refine Wp.seq ?_ | refine Wp.reg ?_ | refine Wp.block ?_ | refine Wp.skip ?_ | refine Wp.ret ?_ | refine Wp.exit ?_ | refine Wp.label ?_ | refine Wp.condG ?_) | simp (disch := omega) only [↓RP, RQ, TS, TR, ↓reduceIte, Nat.reduceEqDiff, Nat.reduceLT, Nat.reduceLeDiff, Int.reduceLT, Int.reduceLE, Int.reduceEq, Int.reduceAdd, Int.reduceSub, Int.reduceNeg, Int.reduceToNat, Nat.reduceAdd, Nat.reduceMul, Nat.reduceSub, reduceCtorEq, RC, Int.cast_ofNat_Int, hn, g0, hS.ld 0 rfl]
  refine letG_split' (fun h2 => ?_) (fun h2 => ?_)
  · repeat first | (with_reducible first | refine Wp.seq ?_ | refine Wp.reg ?_ | refine Wp.block ?_ | refine Wp.skip ?_ | refine Wp.ret ?_ | refine Wp.exit ?_ | refine Wp.label ?_ | refine Wp.condG ?_) | simp (disch := omega) only [↓RP, RQ, TS, TR, ↓reduceIte, Nat.reduceEqDiff, Nat.reduceLT, Nat.reduceLeDiff, Int.reduceLT, Int.reduceLE, Int.reduceEq, Int.reduceAdd, Int.reduceSub, Int.reduceNeg, Int.reduceToNat, Nat.reduceAdd, Nat.reduceMul, Nat.reduceSub, reduceCtorEq, RC, Int.cast_ofNat_Int, hn, g0, h2]
    exact ⟨by unfold chk; rw [if_neg h, if_pos (.inl h2)], hS.forget⟩
  repeat first | (with_reducible first | refine Wp.seq ?_ | refine Wp.reg ?_ | refine Wp.block ?_ | refine Wp.skip ?_ | refine Wp.ret ?_ | refine Wp.exit ?_ | refine Wp.label ?_ | refine Wp.condG ?_) | simp (disch := omega) only [↓RP, RQ, TS, TR, ↓reduceIte, Nat.reduceEqDiff, Nat.reduceLT, Nat.reduceLeDiff, Int.reduceLT, Int.reduceLE, Int.reduceEq, Int.reduceAdd, Int.reduceSub, Int.reduceNeg, Int.reduceToNat, Nat.reduceAdd, Nat.reduceMul, Nat.reduceSub, reduceCtorEq, RC, Int.cast_ofNat_Int, hn, g0, hS.ld 0 rfl, hv1.len, h2]
  refine condW_split (fun h3 => ?_) (fun h3 => ?_)
  · repeat first | (with_reducible first | refine Wp.seq ?_ | refine Wp.reg ?_ | refine Wp.block ?_ | refine Wp.skip ?_ | refine Wp.ret ?_ | refine Wp.exit ?_ | refine Wp.label ?_ | refine Wp.condG ?_) | simp (disch := omega) only [↓RP, RQ, TS, TR, ↓reduceIte, Nat.reduceEqDiff, Nat.reduceLT, Nat.reduceLeDiff, Int.reduceLT, Int.reduceLE, Int.reduceEq, Int.reduceAdd, Int.reduceSub, Int.reduceNeg, Int.reduceToNat, Nat.reduceAdd, Nat.reduceMul, Nat.reduceSub, reduceCtorEq, RC, Int.cast_ofNat_Int, hn, g0]
    exact ⟨by unfold chk; rw [if_neg h, if_pos (.inr (by omega))], hS.forget⟩
  repeat first | (with_reducible first | refine Wp.seq ?_ | refine Wp.reg ?_ | refine Wp.block ?_ | refine Wp.skip ?_ | refine Wp.ret ?_ | refine Wp.exit ?_ | refine Wp.label ?_ | refine Wp.condG ?_) | simp (disch := omega) only [↓RP, RQ, TS, TR, ↓reduceIte, Nat.reduceEqDiff, Nat.reduceLT, Nat.reduceLeDiff, Int.reduceLT, Int.reduceLE, Int.reduceEq, Int.reduceAdd, Int.reduceSub, Int.reduceNeg, Int.reduceToNat, Nat.reduceAdd, Nat.reduceMul, Nat.reduceSub, reduceCtorEq, RC, Int.cast_ofNat_Int, hn, g0]
  have hch : chk N es = if es.all (okE N) = true then 0 else 10 := by unfold chk; rw [if_neg h, if_neg (by omega)]
  refine Wp.loopN (fun n l H' => St Try.prog H H' [⟨ptr A 0 2, 0, [I N, v]⟩] ∧ l.length = 51 ∧ get l 1 = ptr A 0 2 ∧ ∃ i : Nat, n + i = es.length ∧ get l 3 = I i ∧ ∀ j, j < i → okE N (es.getD j (0, 0)) = true) es.length ?_ ?_
  · simp (disch := omega) only [↓RP, RQ, TS, TR, ↓reduceIte, Nat.reduceEqDiff, Nat.reduceLT, Nat.reduceLeDiff, Int.reduceLT, Int.reduceLE, Int.reduceEq, Int.reduceAdd, Int.reduceSub, Int.reduceNeg, Int.reduceToNat, Nat.reduceAdd, Nat.reduceMul, Nat.reduceSub, reduceCtorEq, RC, Int.cast_ofNat_Int, hn]
    exact ⟨hS, 0, rfl, rfl, fun j hj => absurd hj (Nat.not_lt_zero _)⟩
  clear hS hn g0 h h2 h3 hv1
  rintro n l H' ⟨hS, hn, g1, i, hi, g3, hok⟩
  have hv1 : Sl2 H' v _ _ es := hS.base hv
  repeat first | (with_reducible first | refine Wp.seq ?_ | refine Wp.reg ?_ | refine Wp.block ?_ | refine Wp.skip ?_ | refine Wp.ret ?_ | refine Wp.exit ?_ | refine Wp.label ?_ | refine Wp.condG ?_) | simp (disch := omega) only [↓RP, RQ, TS, TR, ↓reduceIte, Nat.reduceEqDiff, Nat.reduceLT, Nat.reduceLeDiff, Int.reduceLT, Int.reduceLE, Int.reduceEq, Int.reduceAdd, Int.reduceSub, Int.reduceNeg, Int.reduceToNat, Nat.reduceAdd, Nat.reduceMul, Nat.reduceSub, reduceCtorEq, RC, Int.cast_ofNat_Int, hn, g1, g3, hS.ld 0 rfl, hv1.len]
  refine condW_split (fun h3 => ?_) (fun h3 => ?_)
  · have hil : i < es.length := by omega
    repeat first | (with_reducible first | refine Wp.seq ?_ | refine Wp.reg ?_ | refine Wp.block ?_ | refine Wp.skip ?_ | refine Wp.ret ?_ | refine Wp.exit ?_ | refine Wp.label ?_ | refine Wp.condG ?_) | simp (disch := omega) only [↓RP, RQ, TS, TR, ↓reduceIte, Nat.reduceEqDiff, Nat.reduceLT, Nat.reduceLeDiff, Int.reduceLT, Int.reduceLE, Int.reduceEq, Int.reduceAdd, Int.reduceSub, Int.reduceNeg, Int.reduceToNat, Nat.reduceAdd, Nat.reduceMul, Nat.reduceSub, reduceCtorEq, RC, Int.cast_ofNat_Int, hn, g1, g3, hS.ld 0 rfl, hv1.idx, hv1.ldA (0, 0)]
    refine hS.eNew 2 [I 0, I 0] rfl rfl rfl tS48 fun B H1 hS => ?_
    repeat first | (with_reducible first | refine Wp.seq ?_ | refine Wp.reg ?_ | refine Wp.block ?_ | refine Wp.skip ?_ | refine Wp.ret ?_ | refine Wp.exit ?_ | refine Wp.label ?_ | refine Wp.condG ?_) | simp (disch := omega) only [↓RP, RQ, TS, TR, ↓reduceIte, Nat.reduceEqDiff, Nat.reduceLT, Nat.reduceLeDiff, Int.reduceLT, Int.reduceLE, Int.reduceEq, Int.reduceAdd, Int.reduceSub, Int.reduceNeg, Int.reduceToNat, Nat.reduceAdd, Nat.reduceMul, Nat.reduceSub, reduceCtorEq, RC, Int.cast_ofNat_Int, hn, g1, g3]
    refine hS.eStore 1 rfl [_, _] rfl rfl tS48 (by simp) fun H2 hS => ?_
    simp only [List.nil_append, List.cons_append, List.append_nil, List.set_cons_zero, List.set_cons_succ, setMany_cons, setMany_nil, Nat.zero_add, Nat.mul_one, Nat.add_zero] at hS
    have hbad : okE N (es.getD i (0, 0)) = false → chk N es = 10 := fun hb => by
      rw [hch, if_neg]
      intro ha
      rw [List.all_eq_true] at ha
      have := ha _ (getD_mem (0, 0) hil)
      rw [hb] at this
      cases this
    have hgood : okE N (es.getD i (0, 0)) = true → ∀ j, j < i + 1 → okE N (es.getD j (0, 0)) = true := fun hb j hj => by
      by_cases e : j = i
      · subst e; exact hb
      · exact hok j (by omega)
    have hokE : okE N (es.getD i (0, 0)) = (decide (0 ≤ (es.getD i (0, 0)).1 ∧ (es.getD i (0, 0)).1 < N) && decide (0 ≤ (es.getD i (0, 0)).2 ∧ (es.getD i (0, 0)).2 < N)) := rfl
    generalize es.getD i (0, 0) = e at hbad hgood hS hokE ⊢
    by_cases c : (0 ≤ e.1 ∧ e.1 < N) ∧ (0 ≤ e.2 ∧ e.2 < N)
    · have hk : okE N e = true := by rw [hokE, decide_eq_true c.1, decide_eq_true c.2]; rfl
      have d1 : decide (e.1 < 0) = false := decide_eq_false (by omega)
      have d2 : decide (N ≤ e.1) = false := decide_eq_false (by omega)
      have d3 : decide (e.2 < 0) = false := decide_eq_false (by omega)
      have d4 : decide (N ≤ e.2) = false := decide_eq_false (by omega)
      repeat first | (with_reducible first | refine Wp.seq ?_ | refine Wp.reg ?_ | refine Wp.block ?_ | refine Wp.skip ?_ | refine Wp.ret ?_ | refine Wp.exit ?_ | refine Wp.label ?_ | refine Wp.condG ?_) | simp (disch := omega) only [↓RP, RQ, TS, TR, ↓reduceIte, Nat.reduceEqDiff, Nat.reduceLT, Nat.reduceLeDiff, Int.reduceLT, Int.reduceLE, Int.reduceEq, Int.reduceAdd, Int.reduceSub, Int.reduceNeg, Int.reduceToNat, Nat.reduceAdd, Nat.reduceMul, Nat.reduceSub, reduceCtorEq, RC, Int.cast_ofNat_Int, hn, g1, g3, hS.ld 0 rfl, hS.ld 1 rfl, d1, d2, d3, d4, wrap_fit]
      exact ⟨n - 1, by omega, hS.sub (by simp), i + 1, by omega, rfl, hgood hk⟩
    · have hk : okE N e = false := by
        rw [hokE, Bool.and_eq_false_iff, decide_eq_false_iff_not, decide_eq_false_iff_not]
        by_cases c1 : 0 ≤ e.1 ∧ e.1 < N
        · exact .inr fun c2 => c ⟨c1, c2⟩
        · exact .inl c1
      have hb := hbad hk
      by_cases c1 : e.1 < 0
      · repeat first | (with_reducible first | refine Wp.seq ?_ | refine Wp.reg ?_ | refine Wp.block ?_ | refine Wp.skip ?_ | refine Wp.ret ?_ | refine Wp.exit ?_ | refine Wp.label ?_ | refine Wp.condG ?_) | simp (disch := omega) only [↓RP, RQ, TS, TR, ↓reduceIte, Nat.reduceEqDiff, Nat.reduceLT, Nat.reduceLeDiff, Int.reduceLT, Int.reduceLE, Int.reduceEq, Int.reduceAdd, Int.reduceSub, Int.reduceNeg, Int.reduceToNat, Nat.reduceAdd, Nat.reduceMul, Nat.reduceSub, reduceCtorEq, RC, Int.cast_ofNat_Int, hn, g1, g3, hS.ld 0 rfl, hS.ld 1 rfl, decide_eq_true c1]
        exact ⟨by rw [hb], hS.forget⟩
      by_cases c2 : N ≤ e.1
      · repeat first | (with_reducible first | refine Wp.seq ?_ | refine Wp.reg ?_ | refine Wp.block ?_ | refine Wp.skip ?_ | refine Wp.ret ?_ | refine Wp.exit ?_ | refine Wp.label ?_ | refine Wp.condG ?_) | simp (disch := omega) only [↓RP, RQ, TS, TR, ↓reduceIte, Nat.reduceEqDiff, Nat.reduceLT, Nat.reduceLeDiff, Int.reduceLT, Int.reduceLE, Int.reduceEq, Int.reduceAdd, Int.reduceSub, Int.reduceNeg, Int.reduceToNat, Nat.reduceAdd, Nat.reduceMul, Nat.reduceSub, reduceCtorEq, RC, Int.cast_ofNat_Int, hn, g1, g3, hS.ld 0 rfl, hS.ld 1 rfl, decide_eq_false c1, decide_eq_true c2]
        exact ⟨by rw [hb], hS.forget⟩
      by_cases c3 : e.2 < 0
      · repeat first | (with_reducible first | refine Wp.seq ?_ | refine Wp.reg ?_ | refine Wp.block ?_ | refine Wp.skip ?_ | refine Wp.ret ?_ | refine Wp.exit ?_ | refine Wp.label ?_ | refine Wp.condG ?_) | simp (disch := omega) only [↓RP, RQ, TS, TR, ↓reduceIte, Nat.reduceEqDiff, Nat.reduceLT, Nat.reduceLeDiff, Int.reduceLT, Int.reduceLE, Int.reduceEq, Int.reduceAdd, Int.reduceSub, Int.reduceNeg, Int.reduceToNat, Nat.reduceAdd, Nat.reduceMul, Nat.reduceSub, reduceCtorEq, RC, Int.cast_ofNat_Int, hn, g1, g3, hS.ld 0 rfl, hS.ld 1 rfl, decide_eq_false c1, decide_eq_false c2, decide_eq_true c3]
        exact ⟨by rw [hb], hS.forget⟩
      have c4 : N ≤ e.2 := by omega
      repeat first | (with_reducible first | refine Wp.seq ?_ | refine Wp.reg ?_ | refine Wp.block ?_ | refine Wp.skip ?_ | refine Wp.ret ?_ | refine Wp.exit ?_ | refine Wp.label ?_ | refine Wp.condG ?_) | simp (disch := omega) only [↓RP, RQ, TS, TR, ↓reduceIte, Nat.reduceEqDiff, Nat.reduceLT, Nat.reduceLeDiff, Int.reduceLT, Int.reduceLE, Int.reduceEq, Int.reduceAdd, Int.reduceSub, Int.reduceNeg, Int.reduceToNat, Nat.reduceAdd, Nat.reduceMul, Nat.reduceSub, reduceCtorEq, RC, Int.cast_ofNat_Int, hn, g1, g3, hS.ld 0 rfl, hS.ld 1 rfl, decide_eq_false c1, decide_eq_false c2, decide_eq_false c3, decide_eq_true c4]
      exact ⟨by rw [hb], hS.forget⟩
  · repeat first | (with_reducible first | refine Wp.seq ?_ | refine Wp.reg ?_ | refine Wp.block ?_ | refine Wp.skip ?_ | refine Wp.ret ?_ | refine Wp.exit ?_ | refine Wp.label ?_ | refine Wp.condG ?_) | simp (disch := omega) only [↓RP, RQ, TS, TR, ↓reduceIte, Nat.reduceEqDiff, Nat.reduceLT, Nat.reduceLeDiff, Int.reduceLT, Int.reduceLE, Int.reduceEq, Int.reduceAdd, Int.reduceSub, Int.reduceNeg, Int.reduceToNat, Nat.reduceAdd, Nat.reduceMul, Nat.reduceSub, reduceCtorEq, RC, Int.cast_ofNat_Int, hn]
    refine ⟨?_, hS.forget⟩
    rw [hch, if_pos]
    rw [List.all_eq_true]
    intro x hx
    obtain ⟨j, hj, rfl⟩ := List.mem_iff_getElem.1 hx
    have := hok j (by omega)
    rwa [List.getD_eq_getElem?_getD, List.getElem?_eq_getElem hj] at this
end Go.Ds
/-
  Contracts: what the functions say of a graph with an error.
-/
namespace Go.Ds
open Go.Proofs Go.Plain
variable {H : Heap}

theorem tR33 (l : List Value) (H : Heap) : resultsD Try.prog Try.f33 l H = (ldW (aggP Try.prog 27) (sizeP Try.prog 27) H (get l 2)).bind fun v => if (noTuple v && (noTuple (get l 3) && true)) = true then some (.tuple #[v, get l 3]) else none := by
  show (Option.bind (Option.bind (loadD Try.prog H 27 (get l 2)) fun v => some [v, get l 3]) fun vs => _) = _
  rw [loadD_eq]
  cases ldW _ _ H (get l 2) <;> rfl

theorem cycleZ_ok (N : Int) (v : Value) (es : List (Int × Int)) (hv : EgZ H v es) (he : es.length < 1000000) (hc : chk N es ≠ 0) : Fn Try.prog 19 [.agg #[I N, v]] H fun r H' => r = .tuple #[.slice none 0 0, .bool false, I (chk N es)] ∧ St Try.prog H H' [] := by
  refine Fn.of_wp (fn := Try.f19) rfl rfl (by kernel_rfl) fun l hl => ?_
  have hn : l.length = 53 := by rw [hl]; rfl
  have g0 : get l 0 = .agg #[I N, v] := by rw [hl]; rfl
  clear hl
  repeat first | (with_reducible first | refine Wp.seq ?_ | refine Wp.reg ?_ | refine Wp.block ?_ | refine Wp.skip ?_ | refine Wp.ret ?_ | refine Wp.exit ?_ | refine Wp.label ?_ | refine Wp.condG ?_) | simp (disch := omega) only [↓RP, RQ, TS, TR, ↓reduceIte, Nat.reduceEqDiff, Nat.reduceLT, Nat.reduceLeDiff, Int.reduceLT, Int.reduceLE, Int.reduceEq, Int.reduceAdd, Int.reduceSub, Int.reduceNeg, Int.reduceToNat, Nat.reduceAdd, Nat.reduceMul, Nat.reduceSub, reduceCtorEq, RC, Int.cast_ofNat_Int, hn, g0]
  refine (St.refl _ H).eNew 2 [I N, v] rfl rfl (by simp [RdAt.one hv]; rfl) tS27 fun A H1 hS => ?_
  repeat first | (with_reducible first | refine Wp.seq ?_ | refine Wp.reg ?_ | refine Wp.block ?_ | refine Wp.skip ?_ | refine Wp.ret ?_ | refine Wp.exit ?_ | refine Wp.label ?_ | refine Wp.condG ?_) | simp (disch := omega) only [↓RP, RQ, TS, TR, ↓reduceIte, Nat.reduceEqDiff, Nat.reduceLT, Nat.reduceLeDiff, Int.reduceLT, Int.reduceLE, Int.reduceEq, Int.reduceAdd, Int.reduceSub, Int.reduceNeg, Int.reduceToNat, Nat.reduceAdd, Nat.reduceMul, Nat.reduceSub, reduceCtorEq, RC, Int.cast_ofNat_Int, hn, g0, hS.ldA 0 rfl]
  refine callFW_of (checkZ_ok N v es (hS.base hv) he) ?_
  rintro r H2 ⟨rfl, hS2⟩
  have hS := hS.trans hS2
  generalize chk N es = e at hc ⊢
  repeat first | (with_reducible first | refine Wp.seq ?_ | refine Wp.reg ?_ | refine Wp.block ?_ | refine Wp.skip ?_ | refine Wp.ret ?_ | refine Wp.exit ?_ | refine Wp.label ?_ | refine Wp.condG ?_) | simp (disch := omega) only [↓RP, RQ, TS, TR, ↓reduceIte, Nat.reduceEqDiff, Nat.reduceLT, Nat.reduceLeDiff, Int.reduceLT, Int.reduceLE, Int.reduceEq, Int.reduceAdd, Int.reduceSub, Int.reduceNeg, Int.reduceToNat, Nat.reduceAdd, Nat.reduceMul, Nat.reduceSub, reduceCtorEq, RC, Int.cast_ofNat_Int, hn, g0]
  refine condW_split (fun h => ?_) (fun h => absurd hc h)
  repeat first | (with_reducible first | refine Wp.seq ?_ | refine Wp.reg ?_ | refine Wp.block ?_ | refine Wp.skip ?_ | refine Wp.ret ?_ | refine Wp.exit ?_ | refine Wp.label ?_ | refine Wp.condG ?_) | simp (disch := omega) only [↓RP, RQ, TS, TR, ↓reduceIte, Nat.reduceEqDiff, Nat.reduceLT, Nat.reduceLeDiff, Int.reduceLT, Int.reduceLE, Int.reduceEq, Int.reduceAdd, Int.reduceSub, Int.reduceNeg, Int.reduceToNat, Nat.reduceAdd, Nat.reduceMul, Nat.reduceSub, reduceCtorEq, RC, Int.cast_ofNat_Int, hn, g0]
  exact hS.forget

theorem componentsZ_ok (N : Int) (v : Value) (es : List (Int × Int)) (hv : EgZ H v es) (he : es.length < 1000000) (hc : chk N es ≠ 0) : Fn Try.prog 32 [.agg #[I N, v]] H fun r H' => r = .tuple #[.slice none 0 0, I (chk N es)] ∧ St Try.prog H H' [] := by
  refine Fn.of_wp (fn := Try.f32) rfl rfl (by kernel_rfl) fun l hl => ?_
  have hn : l.length = 18 := by rw [hl]; rfl
  have g0 : get l 0 = .agg #[I N, v] := by rw [hl]; rfl
  clear hl
  repeat first | (with_reducible first | refine Wp.seq ?_ | refine Wp.reg ?_ | refine Wp.block ?_ | refine Wp.skip ?_ | refine Wp.ret ?_ | refine Wp.exit ?_ | refine Wp.label ?_ | refine Wp.condG ?_) | simp (disch := omega) only [↓RP, RQ, TS, TR, ↓reduceIte, Nat.reduceEqDiff, Nat.reduceLT, Nat.reduceLeDiff, Int.reduceLT, Int.reduceLE, Int.reduceEq, Int.reduceAdd, Int.reduceSub, Int.reduceNeg, Int.reduceToNat, Nat.reduceAdd, Nat.reduceMul, Nat.reduceSub, reduceCtorEq, RC, Int.cast_ofNat_Int, hn, g0]
  refine (St.refl _ H).eNew 2 [I N, v] rfl rfl (by simp [RdAt.one hv]; rfl) tS27 fun A H1 hS => ?_
  repeat first | (with_reducible first | refine Wp.seq ?_ | refine Wp.reg ?_ | refine Wp.block ?_ | refine Wp.skip ?_ | refine Wp.ret ?_ | refine Wp.exit ?_ | refine Wp.label ?_ | refine Wp.condG ?_) | simp (disch := omega) only [↓RP, RQ, TS, TR, ↓reduceIte, Nat.reduceEqDiff, Nat.reduceLT, Nat.reduceLeDiff, Int.reduceLT, Int.reduceLE, Int.reduceEq, Int.reduceAdd, Int.reduceSub, Int.reduceNeg, Int.reduceToNat, Nat.reduceAdd, Nat.reduceMul, Nat.reduceSub, reduceCtorEq, RC, Int.cast_ofNat_Int, hn, g0, hS.ldA 0 rfl]
  refine callFW_of (checkZ_ok N v es (hS.base hv) he) ?_
  rintro r H2 ⟨rfl, hS2⟩
  have hS := hS.trans hS2
  generalize chk N es = e at hc ⊢
  repeat first | (with_reducible first | refine Wp.seq ?_ | refine Wp.reg ?_ | refine Wp.block ?_ | refine Wp.skip ?_ | refine Wp.ret ?_ | refine Wp.exit ?_ | refine Wp.label ?_ | refine Wp.condG ?_) | simp (disch := omega) only [↓RP, RQ, TS, TR, ↓reduceIte, Nat.reduceEqDiff, Nat.reduceLT, Nat.reduceLeDiff, Int.reduceLT, Int.reduceLE, Int.reduceEq, Int.reduceAdd, Int.reduceSub, Int.reduceNeg, Int.reduceToNat, Nat.reduceAdd, Nat.reduceMul, Nat.reduceSub, reduceCtorEq, RC, Int.cast_ofNat_Int, hn, g0]
  refine condW_split (fun h => ?_) (fun h => absurd hc h)
  repeat first | (with_reducible first | refine Wp.seq ?_ | refine Wp.reg ?_ | refine Wp.block ?_ | refine Wp.skip ?_ | refine Wp.ret ?_ | refine Wp.exit ?_ | refine Wp.label ?_ | refine Wp.condG ?_) | simp (disch := omega) only [↓RP, RQ, TS, TR, ↓reduceIte, Nat.reduceEqDiff, Nat.reduceLT, Nat.reduceLeDiff, Int.reduceLT, Int.reduceLE, Int.reduceEq, Int.reduceAdd, Int.reduceSub, Int.reduceNeg, Int.reduceToNat, Nat.reduceAdd, Nat.reduceMul, Nat.reduceSub, reduceCtorEq, RC, Int.cast_ofNat_Int, hn, g0]
  exact hS.forget

theorem orderZ_ok (N : Int) (v : Value) (es : List (Int × Int)) (hv : EgZ H v es) (he : es.length < 1000000) (hc : chk N es ≠ 0) : Fn Try.prog 21 [.agg #[I N, v]] H fun r H' => r = .tuple #[.slice none 0 0, I (chk N es)] ∧ St Try.prog H H' [] := by
  refine Fn.of_wp (fn := Try.f21) rfl rfl (by kernel_rfl) fun l hl => ?_
  have hn : l.length = 66 := by rw [hl]; rfl
  have g0 : get l 0 = .agg #[I N, v] := by rw [hl]; rfl
  clear hl
  repeat first | (with_reducible first | refine Wp.seq ?_ | refine Wp.reg ?_ | refine Wp.block ?_ | refine Wp.skip ?_ | refine Wp.ret ?_ | refine Wp.exit ?_ | refine Wp.label ?_ | refine Wp.condG ?_) | simp (disch := omega) only [↓RP, RQ, TS, TR, ↓reduceIte, Nat.reduceEqDiff, Nat.reduceLT, Nat.reduceLeDiff, Int.reduceLT, Int.reduceLE, Int.reduceEq, Int.reduceAdd, Int.reduceSub, Int.reduceNeg, Int.reduceToNat, Nat.reduceAdd, Nat.reduceMul, Nat.reduceSub, reduceCtorEq, RC, Int.cast_ofNat_Int, hn, g0]
  refine (St.refl _ H).eNew 2 [I N, v] rfl rfl (by simp [RdAt.one hv]; rfl) tS27 fun A H1 hS => ?_
  repeat first | (with_reducible first | refine Wp.seq ?_ | refine Wp.reg ?_ | refine Wp.block ?_ | refine Wp.skip ?_ | refine Wp.ret ?_ | refine Wp.exit ?_ | refine Wp.label ?_ | refine Wp.condG ?_) | simp (disch := omega) only [↓RP, RQ, TS, TR, ↓reduceIte, Nat.reduceEqDiff, Nat.reduceLT, Nat.reduceLeDiff, Int.reduceLT, Int.reduceLE, Int.reduceEq, Int.reduceAdd, Int.reduceSub, Int.reduceNeg, Int.reduceToNat, Nat.reduceAdd, Nat.reduceMul, Nat.reduceSub, reduceCtorEq, RC, Int.cast_ofNat_Int, hn, g0, hS.ldA 0 rfl]
  refine callFW_of (checkZ_ok N v es (hS.base hv) he) ?_
  rintro r H2 ⟨rfl, hS2⟩
  have hS := hS.trans hS2
  generalize chk N es = e at hc ⊢
  repeat first | (with_reducible first | refine Wp.seq ?_ | refine Wp.reg ?_ | refine Wp.block ?_ | refine Wp.skip ?_ | refine Wp.ret ?_ | refine Wp.exit ?_ | refine Wp.label ?_ | refine Wp.condG ?_) | simp (disch := omega) only [↓RP, RQ, TS, TR, ↓reduceIte, Nat.reduceEqDiff, Nat.reduceLT, Nat.reduceLeDiff, Int.reduceLT, Int.reduceLE, Int.reduceEq, Int.reduceAdd, Int.reduceSub, Int.reduceNeg, Int.reduceToNat, Nat.reduceAdd, Nat.reduceMul, Nat.reduceSub, reduceCtorEq, RC, Int.cast_ofNat_Int, hn, g0]
  refine condW_split (fun h => ?_) (fun h => absurd hc h)
  repeat first | (with_reducible first | refine Wp.seq ?_ | refine Wp.reg ?_ | refine Wp.block ?_ | refine Wp.skip ?_ | refine Wp.ret ?_ | refine Wp.exit ?_ | refine Wp.label ?_ | refine Wp.condG ?_) | simp (disch := omega) only [↓RP, RQ, TS, TR, ↓reduceIte, Nat.reduceEqDiff, Nat.reduceLT, Nat.reduceLeDiff, Int.reduceLT, Int.reduceLE, Int.reduceEq, Int.reduceAdd, Int.reduceSub, Int.reduceNeg, Int.reduceToNat, Nat.reduceAdd, Nat.reduceMul, Nat.reduceSub, reduceCtorEq, RC, Int.cast_ofNat_Int, hn, g0]
  exact hS.forget

theorem condenseZ_ok (N : Int) (v : Value) (es : List (Int × Int)) (hv : EgZ H v es) (he : es.length < 1000000) (hc : chk N es ≠ 0) : Fn Try.prog 33 [.agg #[I N, v]] H fun r H' => r = .tuple #[.agg #[I 0, .slice none 0 0], I (chk N es)] ∧ St Try.prog H H' [] := by
  refine Fn.of_wp (fn := Try.f33) rfl rfl (by kernel_rfl) fun l hl => ?_
  have hn : l.length = 58 := by rw [hl]; rfl
  have g0 : get l 0 = .agg #[I N, v] := by rw [hl]; rfl
  clear hl
  repeat first | (with_reducible first | refine Wp.seq ?_ | refine Wp.reg ?_ | refine Wp.block ?_ | refine Wp.skip ?_ | refine Wp.ret ?_ | refine Wp.exit ?_ | refine Wp.label ?_ | refine Wp.condG ?_) | simp (disch := omega) only [↓RP, RQ, TS, TR, ↓reduceIte, Nat.reduceEqDiff, Nat.reduceLT, Nat.reduceLeDiff, Int.reduceLT, Int.reduceLE, Int.reduceEq, Int.reduceAdd, Int.reduceSub, Int.reduceNeg, Int.reduceToNat, Nat.reduceAdd, Nat.reduceMul, Nat.reduceSub, reduceCtorEq, RC, Int.cast_ofNat_Int, hn, g0]
  refine (St.refl _ H).eNew 2 [I N, v] rfl rfl (by simp [RdAt.one hv]; rfl) tS27 fun A H1 hS => ?_
  repeat first | (with_reducible first | refine Wp.seq ?_ | refine Wp.reg ?_ | refine Wp.block ?_ | refine Wp.skip ?_ | refine Wp.ret ?_ | refine Wp.exit ?_ | refine Wp.label ?_ | refine Wp.condG ?_) | simp (disch := omega) only [↓RP, RQ, TS, TR, ↓reduceIte, Nat.reduceEqDiff, Nat.reduceLT, Nat.reduceLeDiff, Int.reduceLT, Int.reduceLE, Int.reduceEq, Int.reduceAdd, Int.reduceSub, Int.reduceNeg, Int.reduceToNat, Nat.reduceAdd, Nat.reduceMul, Nat.reduceSub, reduceCtorEq, RC, Int.cast_ofNat_Int, hn, g0]
  refine hS.eNew 2 [I 0, .slice none 0 0] rfl rfl rfl tS27 fun R H2 hS => ?_
  repeat first | (with_reducible first | refine Wp.seq ?_ | refine Wp.reg ?_ | refine Wp.block ?_ | refine Wp.skip ?_ | refine Wp.ret ?_ | refine Wp.exit ?_ | refine Wp.label ?_ | refine Wp.condG ?_) | simp (disch := omega) only [↓RP, RQ, TS, TR, ↓reduceIte, Nat.reduceEqDiff, Nat.reduceLT, Nat.reduceLeDiff, Int.reduceLT, Int.reduceLE, Int.reduceEq, Int.reduceAdd, Int.reduceSub, Int.reduceNeg, Int.reduceToNat, Nat.reduceAdd, Nat.reduceMul, Nat.reduceSub, reduceCtorEq, RC, Int.cast_ofNat_Int, hn, g0, hS.ldA 0 rfl]
  refine callFW_of (checkZ_ok N v es (hS.base hv) he) ?_
  rintro r H3 ⟨rfl, hS2⟩
  have hS := hS.trans hS2
  simp only [List.nil_append, List.cons_append, List.append_nil, List.set_cons_zero, List.set_cons_succ, setMany_cons, setMany_nil, Nat.zero_add, Nat.mul_one, Nat.add_zero] at hS
  generalize chk N es = e at hc ⊢
  repeat first | (with_reducible first | refine Wp.seq ?_ | refine Wp.reg ?_ | refine Wp.block ?_ | refine Wp.skip ?_ | refine Wp.ret ?_ | refine Wp.exit ?_ | refine Wp.label ?_ | refine Wp.condG ?_) | simp (disch := omega) only [↓RP, RQ, TS, TR, ↓reduceIte, Nat.reduceEqDiff, Nat.reduceLT, Nat.reduceLeDiff, Int.reduceLT, Int.reduceLE, Int.reduceEq, Int.reduceAdd, Int.reduceSub, Int.reduceNeg, Int.reduceToNat, Nat.reduceAdd, Nat.reduceMul, Nat.reduceSub, reduceCtorEq, RC, Int.cast_ofNat_Int, hn, g0]
  refine condW_split (fun h => ?_) (fun h => absurd hc h)
  repeat first | (with_reducible first | refine Wp.seq ?_ | refine Wp.reg ?_ | refine Wp.block ?_ | refine Wp.skip ?_ | refine Wp.ret ?_ | refine Wp.exit ?_ | refine Wp.label ?_ | refine Wp.condG ?_) | simp (disch := omega) only [↓RP, RQ, TS, TR, ↓reduceIte, Nat.reduceEqDiff, Nat.reduceLT, Nat.reduceLeDiff, Int.reduceLT, Int.reduceLE, Int.reduceEq, Int.reduceAdd, Int.reduceSub, Int.reduceNeg, Int.reduceToNat, Nat.reduceAdd, Nat.reduceMul, Nat.reduceSub, reduceCtorEq, RC, Int.cast_ofNat_Int, hn, g0, tB27n]
  refine hS.eStore 1 rfl [I 0, .slice none 0 0] rfl rfl tS27 (by simp) fun H5 hS => ?_
  simp only [List.nil_append, List.cons_append, List.append_nil, List.set_cons_zero, List.set_cons_succ, setMany_cons, setMany_nil, Nat.zero_add, Nat.mul_one, Nat.add_zero] at hS
  repeat first | (with_reducible first | refine Wp.seq ?_ | refine Wp.reg ?_ | refine Wp.block ?_ | refine Wp.skip ?_ | refine Wp.ret ?_ | refine Wp.exit ?_ | refine Wp.label ?_ | refine Wp.condG ?_) | simp (disch := omega) only [↓RP, RQ, TS, TR, ↓reduceIte, Nat.reduceEqDiff, Nat.reduceLT, Nat.reduceLeDiff, Int.reduceLT, Int.reduceLE, Int.reduceEq, Int.reduceAdd, Int.reduceSub, Int.reduceNeg, Int.reduceToNat, Nat.reduceAdd, Nat.reduceMul, Nat.reduceSub, reduceCtorEq, RC, Int.cast_ofNat_Int, hn, g0, tR33, hS.ldA 1 rfl]
  exact hS.forget

theorem reverseZ_ok (N : Int) (v : Value) (es : List (Int × Int)) (hv : EgZ H v es) (he : es.length < 1000000) (hc : chk N es ≠ 0) : Fn Try.prog 28 [.agg #[I N, v]] H fun r H' => r = .tuple #[.agg #[I 0, .slice none 0 0], I (chk N es)] ∧ St Try.prog H H' [] := by
  refine Fn.of_wp (fn := Try.f28) rfl rfl (by kernel_rfl) fun l hl => ?_
  have hn : l.length = 13 := by rw [hl]; rfl
  have g0 : get l 0 = .agg #[I N, v] := by rw [hl]; rfl
  clear hl
  repeat first | (with_reducible first | refine Wp.seq ?_ | refine Wp.reg ?_ | refine Wp.block ?_ | refine Wp.skip ?_ | refine Wp.ret ?_ | refine Wp.exit ?_ | refine Wp.label ?_ | refine Wp.condG ?_) | simp (disch := omega) only [↓RP, RQ, TS, TR, ↓reduceIte, Nat.reduceEqDiff, Nat.reduceLT, Nat.reduceLeDiff, Int.reduceLT, Int.reduceLE, Int.reduceEq, Int.reduceAdd, Int.reduceSub, Int.reduceNeg, Int.reduceToNat, Nat.reduceAdd, Nat.reduceMul, Nat.reduceSub, reduceCtorEq, RC, Int.cast_ofNat_Int, hn, g0]
  refine (St.refl _ H).eNew 2 [I N, v] rfl rfl (by simp [RdAt.one hv]; rfl) tS27 fun A H1 hS => ?_
  repeat first | (with_reducible first | refine Wp.seq ?_ | refine Wp.reg ?_ | refine Wp.block ?_ | refine Wp.skip ?_ | refine Wp.ret ?_ | refine Wp.exit ?_ | refine Wp.label ?_ | refine Wp.condG ?_) | simp (disch := omega) only [↓RP, RQ, TS, TR, ↓reduceIte, Nat.reduceEqDiff, Nat.reduceLT, Nat.reduceLeDiff, Int.reduceLT, Int.reduceLE, Int.reduceEq, Int.reduceAdd, Int.reduceSub, Int.reduceNeg, Int.reduceToNat, Nat.reduceAdd, Nat.reduceMul, Nat.reduceSub, reduceCtorEq, RC, Int.cast_ofNat_Int, hn, g0]
  refine hS.eNew 2 [I 0, .slice none 0 0] rfl rfl rfl tS27 fun R H2 hS => ?_
  repeat first | (with_reducible first | refine Wp.seq ?_ | refine Wp.reg ?_ | refine Wp.block ?_ | refine Wp.skip ?_ | refine Wp.ret ?_ | refine Wp.exit ?_ | refine Wp.label ?_ | refine Wp.condG ?_) | simp (disch := omega) only [↓RP, RQ, TS, TR, ↓reduceIte, Nat.reduceEqDiff, Nat.reduceLT, Nat.reduceLeDiff, Int.reduceLT, Int.reduceLE, Int.reduceEq, Int.reduceAdd, Int.reduceSub, Int.reduceNeg, Int.reduceToNat, Nat.reduceAdd, Nat.reduceMul, Nat.reduceSub, reduceCtorEq, RC, Int.cast_ofNat_Int, hn, g0, hS.ldA 0 rfl]
  refine callFW_of (checkZ_ok N v es (hS.base hv) he) ?_
  rintro r H3 ⟨rfl, hS2⟩
  have hS := hS.trans hS2
  simp only [List.nil_append, List.cons_append, List.append_nil, List.set_cons_zero, List.set_cons_succ, setMany_cons, setMany_nil, Nat.zero_add, Nat.mul_one, Nat.add_zero] at hS
  generalize chk N es = e at hc ⊢
  repeat first | (with_reducible first | refine Wp.seq ?_ | refine Wp.reg ?_ | refine Wp.block ?_ | refine Wp.skip ?_ | refine Wp.ret ?_ | refine Wp.exit ?_ | refine Wp.label ?_ | refine Wp.condG ?_) | simp (disch := omega) only [↓RP, RQ, TS, TR, ↓reduceIte, Nat.reduceEqDiff, Nat.reduceLT, Nat.reduceLeDiff, Int.reduceLT, Int.reduceLE, Int.reduceEq, Int.reduceAdd, Int.reduceSub, Int.reduceNeg, Int.reduceToNat, Nat.reduceAdd, Nat.reduceMul, Nat.reduceSub, reduceCtorEq, RC, Int.cast_ofNat_Int, hn, g0]
  refine condW_split (fun h => ?_) (fun h => absurd hc h)
  repeat first | (with_reducible first | refine Wp.seq ?_ | refine Wp.reg ?_ | refine Wp.block ?_ | refine Wp.skip ?_ | refine Wp.ret ?_ | refine Wp.exit ?_ | refine Wp.label ?_ | refine Wp.condG ?_) | simp (disch := omega) only [↓RP, RQ, TS, TR, ↓reduceIte, Nat.reduceEqDiff, Nat.reduceLT, Nat.reduceLeDiff, Int.reduceLT, Int.reduceLE, Int.reduceEq, Int.reduceAdd, Int.reduceSub, Int.reduceNeg, Int.reduceToNat, Nat.reduceAdd, Nat.reduceMul, Nat.reduceSub, reduceCtorEq, RC, Int.cast_ofNat_Int, hn, g0, tB27n]
  refine hS.eStore 1 rfl [I 0, .slice none 0 0] rfl rfl tS27 (by simp) fun H5 hS => ?_
  simp only [List.nil_append, List.cons_append, List.append_nil, List.set_cons_zero, List.set_cons_succ, setMany_cons, setMany_nil, Nat.zero_add, Nat.mul_one, Nat.add_zero] at hS
  repeat first | (with_reducible first | refine Wp.seq ?_ | refine Wp.reg ?_ | refine Wp.block ?_ | refine Wp.skip ?_ | refine Wp.ret ?_ | refine Wp.exit ?_ | refine Wp.label ?_ | refine Wp.condG ?_) | simp (disch := omega) only [↓RP, RQ, TS, TR, ↓reduceIte, Nat.reduceEqDiff, Nat.reduceLT, Nat.reduceLeDiff, Int.reduceLT, Int.reduceLE, Int.reduceEq, Int.reduceAdd, Int.reduceSub, Int.reduceNeg, Int.reduceToNat, Nat.reduceAdd, Nat.reduceMul, Nat.reduceSub, reduceCtorEq, RC, Int.cast_ofNat_Int, hn, g0, tR28, hS.ldA 1 rfl]
  exact hS.forget

theorem closureZ_ok (N : Int) (v : Value) (es : List (Int × Int)) (hv : EgZ H v es) (he : es.length < 1000000) (hc : chk N es ≠ 0) : Fn Try.prog 27 [.agg #[I N, v]] H fun r H' => r = .tuple #[.agg #[I 0, .slice none 0 0], I (chk N es)] ∧ St Try.prog H H' [] := by
  refine Fn.of_wp (fn := Try.f27) rfl rfl (by kernel_rfl) fun l hl => ?_
  have hn : l.length = 87 := by rw [hl]; rfl
  have g0 : get l 0 = .agg #[I N, v] := by rw [hl]; rfl
  clear hl
  repeat first | (with_reducible first | refine Wp.seq ?_ | refine Wp.reg ?_ | refine Wp.block ?_ | refine Wp.skip ?_ | refine Wp.ret ?_ | refine Wp.exit ?_ | refine Wp.label ?_ | refine Wp.condG ?_) | simp (disch := omega) only [↓RP, RQ, TS, TR, ↓reduceIte, Nat.reduceEqDiff, Nat.reduceLT, Nat.reduceLeDiff, Int.reduceLT, Int.reduceLE, Int.reduceEq, Int.reduceAdd, Int.reduceSub, Int.reduceNeg, Int.reduceToNat, Nat.reduceAdd, Nat.reduceMul, Nat.reduceSub, reduceCtorEq, RC, Int.cast_ofNat_Int, hn, g0]
  refine (St.refl _ H).eNew 2 [I N, v] rfl rfl (by simp [RdAt.one hv]; rfl) tS27 fun A H1 hS => ?_
  repeat first | (with_reducible first | refine Wp.seq ?_ | refine Wp.reg ?_ | refine Wp.block ?_ | refine Wp.skip ?_ | refine Wp.ret ?_ | refine Wp.exit ?_ | refine Wp.label ?_ | refine Wp.condG ?_) | simp (disch := omega) only [↓RP, RQ, TS, TR, ↓reduceIte, Nat.reduceEqDiff, Nat.reduceLT, Nat.reduceLeDiff, Int.reduceLT, Int.reduceLE, Int.reduceEq, Int.reduceAdd, Int.reduceSub, Int.reduceNeg, Int.reduceToNat, Nat.reduceAdd, Nat.reduceMul, Nat.reduceSub, reduceCtorEq, RC, Int.cast_ofNat_Int, hn, g0]
  refine hS.eNew 2 [I 0, .slice none 0 0] rfl rfl rfl tS27 fun R H2 hS => ?_
  repeat first | (with_reducible first | refine Wp.seq ?_ | refine Wp.reg ?_ | refine Wp.block ?_ | refine Wp.skip ?_ | refine Wp.ret ?_ | refine Wp.exit ?_ | refine Wp.label ?_ | refine Wp.condG ?_) | simp (disch := omega) only [↓RP, RQ, TS, TR, ↓reduceIte, Nat.reduceEqDiff, Nat.reduceLT, Nat.reduceLeDiff, Int.reduceLT, Int.reduceLE, Int.reduceEq, Int.reduceAdd, Int.reduceSub, Int.reduceNeg, Int.reduceToNat, Nat.reduceAdd, Nat.reduceMul, Nat.reduceSub, reduceCtorEq, RC, Int.cast_ofNat_Int, hn, g0, hS.ldA 0 rfl]
  refine callFW_of (checkZ_ok N v es (hS.base hv) he) ?_
  rintro r H3 ⟨rfl, hS2⟩
  have hS := hS.trans hS2
  simp only [List.nil_append, List.cons_append, List.append_nil, List.set_cons_zero, List.set_cons_succ, setMany_cons, setMany_nil, Nat.zero_add, Nat.mul_one, Nat.add_zero] at hS
  generalize chk N es = e at hc ⊢
  repeat first | (with_reducible first | refine Wp.seq ?_ | refine Wp.reg ?_ | refine Wp.block ?_ | refine Wp.skip ?_ | refine Wp.ret ?_ | refine Wp.exit ?_ | refine Wp.label ?_ | refine Wp.condG ?_) | simp (disch := omega) only [↓RP, RQ, TS, TR, ↓reduceIte, Nat.reduceEqDiff, Nat.reduceLT, Nat.reduceLeDiff, Int.reduceLT, Int.reduceLE, Int.reduceEq, Int.reduceAdd, Int.reduceSub, Int.reduceNeg, Int.reduceToNat, Nat.reduceAdd, Nat.reduceMul, Nat.reduceSub, reduceCtorEq, RC, Int.cast_ofNat_Int, hn, g0]
  refine condW_split (fun h => ?_) (fun h => absurd hc h)
  repeat first | (with_reducible first | refine Wp.seq ?_ | refine Wp.reg ?_ | refine Wp.block ?_ | refine Wp.skip ?_ | refine Wp.ret ?_ | refine Wp.exit ?_ | refine Wp.label ?_ | refine Wp.condG ?_) | simp (disch := omega) only [↓RP, RQ, TS, TR, ↓reduceIte, Nat.reduceEqDiff, Nat.reduceLT, Nat.reduceLeDiff, Int.reduceLT, Int.reduceLE, Int.reduceEq, Int.reduceAdd, Int.reduceSub, Int.reduceNeg, Int.reduceToNat, Nat.reduceAdd, Nat.reduceMul, Nat.reduceSub, reduceCtorEq, RC, Int.cast_ofNat_Int, hn, g0, tB27n]
  refine hS.eStore 1 rfl [I 0, .slice none 0 0] rfl rfl tS27 (by simp) fun H5 hS => ?_
  simp only [List.nil_append, List.cons_append, List.append_nil, List.set_cons_zero, List.set_cons_succ, setMany_cons, setMany_nil, Nat.zero_add, Nat.mul_one, Nat.add_zero] at hS
  repeat first | (with_reducible first | refine Wp.seq ?_ | refine Wp.reg ?_ | refine Wp.block ?_ | refine Wp.skip ?_ | refine Wp.ret ?_ | refine Wp.exit ?_ | refine Wp.label ?_ | refine Wp.condG ?_) | simp (disch := omega) only [↓RP, RQ, TS, TR, ↓reduceIte, Nat.reduceEqDiff, Nat.reduceLT, Nat.reduceLeDiff, Int.reduceLT, Int.reduceLE, Int.reduceEq, Int.reduceAdd, Int.reduceSub, Int.reduceNeg, Int.reduceToNat, Nat.reduceAdd, Nat.reduceMul, Nat.reduceSub, reduceCtorEq, RC, Int.cast_ofNat_Int, hn, g0, tR27, hS.ldA 1 rfl]
  exact hS.forget

theorem longestZ_ok (N : Int) (v : Value) (es : List (Int × Int)) (hv : EgZ H v es) (he : es.length < 1000000) (hc : chk N es ≠ 0) : Fn Try.prog 22 [.agg #[I N, v]] H fun r H' => r = .tuple #[.slice none 0 0, I (chk N es)] ∧ St Try.prog H H' [] := by
  refine Fn.of_wp (fn := Try.f22) rfl rfl (by kernel_rfl) fun l hl => ?_
  have hn : l.length = 53 := by rw [hl]; rfl
  have g0 : get l 0 = .agg #[I N, v] := by rw [hl]; rfl
  clear hl
  repeat first | (with_reducible first | refine Wp.seq ?_ | refine Wp.reg ?_ | refine Wp.block ?_ | refine Wp.skip ?_ | refine Wp.ret ?_ | refine Wp.exit ?_ | refine Wp.label ?_ | refine Wp.condG ?_) | simp (disch := omega) only [↓RP, RQ, TS, TR, ↓reduceIte, Nat.reduceEqDiff, Nat.reduceLT, Nat.reduceLeDiff, Int.reduceLT, Int.reduceLE, Int.reduceEq, Int.reduceAdd, Int.reduceSub, Int.reduceNeg, Int.reduceToNat, Nat.reduceAdd, Nat.reduceMul, Nat.reduceSub, reduceCtorEq, RC, Int.cast_ofNat_Int, hn, g0]
  refine (St.refl _ H).eNew 2 [I N, v] rfl rfl (by simp [RdAt.one hv]; rfl) tS27 fun A H1 hS => ?_
  repeat first | (with_reducible first | refine Wp.seq ?_ | refine Wp.reg ?_ | refine Wp.block ?_ | refine Wp.skip ?_ | refine Wp.ret ?_ | refine Wp.exit ?_ | refine Wp.label ?_ | refine Wp.condG ?_) | simp (disch := omega) only [↓RP, RQ, TS, TR, ↓reduceIte, Nat.reduceEqDiff, Nat.reduceLT, Nat.reduceLeDiff, Int.reduceLT, Int.reduceLE, Int.reduceEq, Int.reduceAdd, Int.reduceSub, Int.reduceNeg, Int.reduceToNat, Nat.reduceAdd, Nat.reduceMul, Nat.reduceSub, reduceCtorEq, RC, Int.cast_ofNat_Int, hn, g0, hS.ldA 0 rfl]
  refine callFW_of (orderZ_ok N v es (hS.base hv) he hc) ?_
  rintro r H2 ⟨rfl, hS2⟩
  have hS := hS.trans hS2
  generalize chk N es = e at hc ⊢
  repeat first | (with_reducible first | refine Wp.seq ?_ | refine Wp.reg ?_ | refine Wp.block ?_ | refine Wp.skip ?_ | refine Wp.ret ?_ | refine Wp.exit ?_ | refine Wp.label ?_ | refine Wp.condG ?_) | simp (disch := omega) only [↓RP, RQ, TS, TR, ↓reduceIte, Nat.reduceEqDiff, Nat.reduceLT, Nat.reduceLeDiff, Int.reduceLT, Int.reduceLE, Int.reduceEq, Int.reduceAdd, Int.reduceSub, Int.reduceNeg, Int.reduceToNat, Nat.reduceAdd, Nat.reduceMul, Nat.reduceSub, reduceCtorEq, RC, Int.cast_ofNat_Int, hn, g0]
  refine condW_split (fun h => ?_) (fun h => absurd hc h)
  repeat first | (with_reducible first | refine Wp.seq ?_ | refine Wp.reg ?_ | refine Wp.block ?_ | refine Wp.skip ?_ | refine Wp.ret ?_ | refine Wp.exit ?_ | refine Wp.label ?_ | refine Wp.condG ?_) | simp (disch := omega) only [↓RP, RQ, TS, TR, ↓reduceIte, Nat.reduceEqDiff, Nat.reduceLT, Nat.reduceLeDiff, Int.reduceLT, Int.reduceLE, Int.reduceEq, Int.reduceAdd, Int.reduceSub, Int.reduceNeg, Int.reduceToNat, Nat.reduceAdd, Nat.reduceMul, Nat.reduceSub, reduceCtorEq, RC, Int.cast_ofNat_Int, hn, g0]
  exact hS.forget

theorem neededZ_ok (N : Int) (v : Value) (es : List (Int × Int)) (hv : EgZ H v es) (he : es.length < 1000000) (hc : chk N es ≠ 0) : Fn Try.prog 29 [.agg #[I N, v]] H fun r H' => r = .tuple #[.slice none 0 0, I (chk N es)] ∧ St Try.prog H H' [] := by
  refine Fn.of_wp (fn := Try.f29) rfl rfl (by kernel_rfl) fun l hl => ?_
  have hn : l.length = 78 := by rw [hl]; rfl
  have g0 : get l 0 = .agg #[I N, v] := by rw [hl]; rfl
  clear hl
  repeat first | (with_reducible first | refine Wp.seq ?_ | refine Wp.reg ?_ | refine Wp.block ?_ | refine Wp.skip ?_ | refine Wp.ret ?_ | refine Wp.exit ?_ | refine Wp.label ?_ | refine Wp.condG ?_) | simp (disch := omega) only [↓RP, RQ, TS, TR, ↓reduceIte, Nat.reduceEqDiff, Nat.reduceLT, Nat.reduceLeDiff, Int.reduceLT, Int.reduceLE, Int.reduceEq, Int.reduceAdd, Int.reduceSub, Int.reduceNeg, Int.reduceToNat, Nat.reduceAdd, Nat.reduceMul, Nat.reduceSub, reduceCtorEq, RC, Int.cast_ofNat_Int, hn, g0]
  refine (St.refl _ H).eNew 2 [I N, v] rfl rfl (by simp [RdAt.one hv]; rfl) tS27 fun A H1 hS => ?_
  repeat first | (with_reducible first | refine Wp.seq ?_ | refine Wp.reg ?_ | refine Wp.block ?_ | refine Wp.skip ?_ | refine Wp.ret ?_ | refine Wp.exit ?_ | refine Wp.label ?_ | refine Wp.condG ?_) | simp (disch := omega) only [↓RP, RQ, TS, TR, ↓reduceIte, Nat.reduceEqDiff, Nat.reduceLT, Nat.reduceLeDiff, Int.reduceLT, Int.reduceLE, Int.reduceEq, Int.reduceAdd, Int.reduceSub, Int.reduceNeg, Int.reduceToNat, Nat.reduceAdd, Nat.reduceMul, Nat.reduceSub, reduceCtorEq, RC, Int.cast_ofNat_Int, hn, g0, hS.ldA 0 rfl]
  refine callFW_of (orderZ_ok N v es (hS.base hv) he hc) ?_
  rintro r H2 ⟨rfl, hS2⟩
  have hS := hS.trans hS2
  generalize chk N es = e at hc ⊢
  repeat first | (with_reducible first | refine Wp.seq ?_ | refine Wp.reg ?_ | refine Wp.block ?_ | refine Wp.skip ?_ | refine Wp.ret ?_ | refine Wp.exit ?_ | refine Wp.label ?_ | refine Wp.condG ?_) | simp (disch := omega) only [↓RP, RQ, TS, TR, ↓reduceIte, Nat.reduceEqDiff, Nat.reduceLT, Nat.reduceLeDiff, Int.reduceLT, Int.reduceLE, Int.reduceEq, Int.reduceAdd, Int.reduceSub, Int.reduceNeg, Int.reduceToNat, Nat.reduceAdd, Nat.reduceMul, Nat.reduceSub, reduceCtorEq, RC, Int.cast_ofNat_Int, hn, g0]
  refine condW_split (fun h => ?_) (fun h => absurd hc h)
  repeat first | (with_reducible first | refine Wp.seq ?_ | refine Wp.reg ?_ | refine Wp.block ?_ | refine Wp.skip ?_ | refine Wp.ret ?_ | refine Wp.exit ?_ | refine Wp.label ?_ | refine Wp.condG ?_) | simp (disch := omega) only [↓RP, RQ, TS, TR, ↓reduceIte, Nat.reduceEqDiff, Nat.reduceLT, Nat.reduceLeDiff, Int.reduceLT, Int.reduceLE, Int.reduceEq, Int.reduceAdd, Int.reduceSub, Int.reduceNeg, Int.reduceToNat, Nat.reduceAdd, Nat.reduceMul, Nat.reduceSub, reduceCtorEq, RC, Int.cast_ofNat_Int, hn, g0]
  exact hS.forget

theorem distanceZ_ok (N : Int) (v : Value) (es : List (Int × Int)) (hv : EgZ H v es) (he : es.length < 1000000) (x : Int) (hc : chk2 N es [x] ≠ 0) : Fn Try.prog 26 [.agg #[I N, v], I x] H fun r H' => r = .tuple #[.slice none 0 0, I (chk2 N es [x])] ∧ St Try.prog H H' [] := by
  refine Fn.of_wp (fn := Try.f26) rfl rfl (by kernel_rfl) fun l hl => ?_
  have hn : l.length = 17 := by rw [hl]; rfl
  have g0 : get l 0 = .agg #[I N, v] := by rw [hl]; rfl
  have g1 : get l 1 = I x := by rw [hl]; rfl
  clear hl
  repeat first | (with_reducible first | refine Wp.seq ?_ | refine Wp.reg ?_ | refine Wp.block ?_ | refine Wp.skip ?_ | refine Wp.ret ?_ | refine Wp.exit ?_ | refine Wp.label ?_ | refine Wp.condG ?_) | simp (disch := omega) only [↓RP, RQ, TS, TR, ↓reduceIte, Nat.reduceEqDiff, Nat.reduceLT, Nat.reduceLeDiff, Int.reduceLT, Int.reduceLE, Int.reduceEq, Int.reduceAdd, Int.reduceSub, Int.reduceNeg, Int.reduceToNat, Nat.reduceAdd, Nat.reduceMul, Nat.reduceSub, reduceCtorEq, RC, Int.cast_ofNat_Int, hn, g0, g1]
  refine (St.refl _ H).eNew 2 [I N, v] rfl rfl (by simp [RdAt.one hv]; rfl) tS27 fun A H1 hS => ?_
  repeat first | (with_reducible first | refine Wp.seq ?_ | refine Wp.reg ?_ | refine Wp.block ?_ | refine Wp.skip ?_ | refine Wp.ret ?_ | refine Wp.exit ?_ | refine Wp.label ?_ | refine Wp.condG ?_) | simp (disch := omega) only [↓RP, RQ, TS, TR, ↓reduceIte, Nat.reduceEqDiff, Nat.reduceLT, Nat.reduceLeDiff, Int.reduceLT, Int.reduceLE, Int.reduceEq, Int.reduceAdd, Int.reduceSub, Int.reduceNeg, Int.reduceToNat, Nat.reduceAdd, Nat.reduceMul, Nat.reduceSub, reduceCtorEq, RC, Int.cast_ofNat_Int, hn, g0, g1, hS.ldA 0 rfl]
  refine hS.eSlice [I x] tP29 tF29 rfl rfl (by simp [Value.cells]) rfl rfl (by decide) (by decide) fun w H2 hS => ?_
  repeat first | (with_reducible first | refine Wp.seq ?_ | refine Wp.reg ?_ | refine Wp.block ?_ | refine Wp.skip ?_ | refine Wp.ret ?_ | refine Wp.exit ?_ | refine Wp.label ?_ | refine Wp.condG ?_) | simp (disch := omega) only [↓RP, RQ, TS, TR, ↓reduceIte, Nat.reduceEqDiff, Nat.reduceLT, Nat.reduceLeDiff, Int.reduceLT, Int.reduceLE, Int.reduceEq, Int.reduceAdd, Int.reduceSub, Int.reduceNeg, Int.reduceToNat, Nat.reduceAdd, Nat.reduceMul, Nat.reduceSub, reduceCtorEq, RC, Int.cast_ofNat_Int, hn, g0, g1]
  refine callFW_of (withZ_ok N v es (hS.base hv) he w [x] (hS.rd 1 rfl) (by simp)) ?_
  rintro r H3 ⟨rfl, hS2⟩
  have hS := hS.trans hS2
  generalize chk2 N es [x] = e at hc ⊢
  repeat first | (with_reducible first | refine Wp.seq ?_ | refine Wp.reg ?_ | refine Wp.block ?_ | refine Wp.skip ?_ | refine Wp.ret ?_ | refine Wp.exit ?_ | refine Wp.label ?_ | refine Wp.condG ?_) | simp (disch := omega) only [↓RP, RQ, TS, TR, ↓reduceIte, Nat.reduceEqDiff, Nat.reduceLT, Nat.reduceLeDiff, Int.reduceLT, Int.reduceLE, Int.reduceEq, Int.reduceAdd, Int.reduceSub, Int.reduceNeg, Int.reduceToNat, Nat.reduceAdd, Nat.reduceMul, Nat.reduceSub, reduceCtorEq, RC, Int.cast_ofNat_Int, hn, g0, g1]
  refine condW_split (fun h => ?_) (fun h => absurd hc h)
  repeat first | (with_reducible first | refine Wp.seq ?_ | refine Wp.reg ?_ | refine Wp.block ?_ | refine Wp.skip ?_ | refine Wp.ret ?_ | refine Wp.exit ?_ | refine Wp.label ?_ | refine Wp.condG ?_) | simp (disch := omega) only [↓RP, RQ, TS, TR, ↓reduceIte, Nat.reduceEqDiff, Nat.reduceLT, Nat.reduceLeDiff, Int.reduceLT, Int.reduceLE, Int.reduceEq, Int.reduceAdd, Int.reduceSub, Int.reduceNeg, Int.reduceToNat, Nat.reduceAdd, Nat.reduceMul, Nat.reduceSub, reduceCtorEq, RC, Int.cast_ofNat_Int, hn, g0, g1]
  exact hS.forget

theorem pathZ_ok (N : Int) (v : Value) (es : List (Int × Int)) (hv : EgZ H v es) (he : es.length < 1000000) (x y : Int) (hc : chk2 N es [x, y] ≠ 0) : Fn Try.prog 14 [.agg #[I N, v], I x, I y] H fun r H' => r = .tuple #[.slice none 0 0, .bool false, I (chk2 N es [x, y])] ∧ St Try.prog H H' [] := by
  refine Fn.of_wp (fn := Try.f14) rfl rfl (by kernel_rfl) fun l hl => ?_
  have hn : l.length = 27 := by rw [hl]; rfl
  have g0 : get l 0 = .agg #[I N, v] := by rw [hl]; rfl
  have g1 : get l 1 = I x := by rw [hl]; rfl
  have g2 : get l 2 = I y := by rw [hl]; rfl
  clear hl
  repeat first | (with_reducible first | refine Wp.seq ?_ | refine Wp.reg ?_ | refine Wp.block ?_ | refine Wp.skip ?_ | refine Wp.ret ?_ | refine Wp.exit ?_ | refine Wp.label ?_ | refine Wp.condG ?_) | simp (disch := omega) only [↓RP, RQ, TS, TR, ↓reduceIte, Nat.reduceEqDiff, Nat.reduceLT, Nat.reduceLeDiff, Int.reduceLT, Int.reduceLE, Int.reduceEq, Int.reduceAdd, Int.reduceSub, Int.reduceNeg, Int.reduceToNat, Nat.reduceAdd, Nat.reduceMul, Nat.reduceSub, reduceCtorEq, RC, Int.cast_ofNat_Int, hn, g0, g1, g2]
  refine (St.refl _ H).eNew 2 [I N, v] rfl rfl (by simp [RdAt.one hv]; rfl) tS27 fun A H1 hS => ?_
  repeat first | (with_reducible first | refine Wp.seq ?_ | refine Wp.reg ?_ | refine Wp.block ?_ | refine Wp.skip ?_ | refine Wp.ret ?_ | refine Wp.exit ?_ | refine Wp.label ?_ | refine Wp.condG ?_) | simp (disch := omega) only [↓RP, RQ, TS, TR, ↓reduceIte, Nat.reduceEqDiff, Nat.reduceLT, Nat.reduceLeDiff, Int.reduceLT, Int.reduceLE, Int.reduceEq, Int.reduceAdd, Int.reduceSub, Int.reduceNeg, Int.reduceToNat, Nat.reduceAdd, Nat.reduceMul, Nat.reduceSub, reduceCtorEq, RC, Int.cast_ofNat_Int, hn, g0, g1, g2, hS.ldA 0 rfl]
  refine hS.eSlice [I x, I y] tP29 tF29 rfl rfl (by simp [Value.cells]) rfl rfl (by decide) (by decide) fun w H2 hS => ?_
  repeat first | (with_reducible first | refine Wp.seq ?_ | refine Wp.reg ?_ | refine Wp.block ?_ | refine Wp.skip ?_ | refine Wp.ret ?_ | refine Wp.exit ?_ | refine Wp.label ?_ | refine Wp.condG ?_) | simp (disch := omega) only [↓RP, RQ, TS, TR, ↓reduceIte, Nat.reduceEqDiff, Nat.reduceLT, Nat.reduceLeDiff, Int.reduceLT, Int.reduceLE, Int.reduceEq, Int.reduceAdd, Int.reduceSub, Int.reduceNeg, Int.reduceToNat, Nat.reduceAdd, Nat.reduceMul, Nat.reduceSub, reduceCtorEq, RC, Int.cast_ofNat_Int, hn, g0, g1, g2]
  refine callFW_of (withZ_ok N v es (hS.base hv) he w [x, y] (hS.rd 1 rfl) (by simp)) ?_
  rintro r H3 ⟨rfl, hS2⟩
  have hS := hS.trans hS2
  generalize chk2 N es [x, y] = e at hc ⊢
  repeat first | (with_reducible first | refine Wp.seq ?_ | refine Wp.reg ?_ | refine Wp.block ?_ | refine Wp.skip ?_ | refine Wp.ret ?_ | refine Wp.exit ?_ | refine Wp.label ?_ | refine Wp.condG ?_) | simp (disch := omega) only [↓RP, RQ, TS, TR, ↓reduceIte, Nat.reduceEqDiff, Nat.reduceLT, Nat.reduceLeDiff, Int.reduceLT, Int.reduceLE, Int.reduceEq, Int.reduceAdd, Int.reduceSub, Int.reduceNeg, Int.reduceToNat, Nat.reduceAdd, Nat.reduceMul, Nat.reduceSub, reduceCtorEq, RC, Int.cast_ofNat_Int, hn, g0, g1, g2]
  refine condW_split (fun h => ?_) (fun h => absurd hc h)
  repeat first | (with_reducible first | refine Wp.seq ?_ | refine Wp.reg ?_ | refine Wp.block ?_ | refine Wp.skip ?_ | refine Wp.ret ?_ | refine Wp.exit ?_ | refine Wp.label ?_ | refine Wp.condG ?_) | simp (disch := omega) only [↓RP, RQ, TS, TR, ↓reduceIte, Nat.reduceEqDiff, Nat.reduceLT, Nat.reduceLeDiff, Int.reduceLT, Int.reduceLE, Int.reduceEq, Int.reduceAdd, Int.reduceSub, Int.reduceNeg, Int.reduceToNat, Nat.reduceAdd, Nat.reduceMul, Nat.reduceSub, reduceCtorEq, RC, Int.cast_ofNat_Int, hn, g0, g1, g2]
  exact hS.forget

theorem reachZ_ok (N : Int) (v : Value) (es : List (Int × Int)) (hv : EgZ H v es) (he : es.length < 1000000) (x : Int) (hc : chk2 N es [x] ≠ 0) : Fn Try.prog 25 [.agg #[I N, v], I x] H fun r H' => r = .tuple #[.slice none 0 0, I (chk2 N es [x])] ∧ St Try.prog H H' [] := by
  refine Fn.of_wp (fn := Try.f25) rfl rfl (by kernel_rfl) fun l hl => ?_
  have hn : l.length = 33 := by rw [hl]; rfl
  have g0 : get l 0 = .agg #[I N, v] := by rw [hl]; rfl
  have g1 : get l 1 = I x := by rw [hl]; rfl
  clear hl
  repeat first | (with_reducible first | refine Wp.seq ?_ | refine Wp.reg ?_ | refine Wp.block ?_ | refine Wp.skip ?_ | refine Wp.ret ?_ | refine Wp.exit ?_ | refine Wp.label ?_ | refine Wp.condG ?_) | simp (disch := omega) only [↓RP, RQ, TS, TR, ↓reduceIte, Nat.reduceEqDiff, Nat.reduceLT, Nat.reduceLeDiff, Int.reduceLT, Int.reduceLE, Int.reduceEq, Int.reduceAdd, Int.reduceSub, Int.reduceNeg, Int.reduceToNat, Nat.reduceAdd, Nat.reduceMul, Nat.reduceSub, reduceCtorEq, RC, Int.cast_ofNat_Int, hn, g0, g1]
  refine (St.refl _ H).eNew 2 [I N, v] rfl rfl (by simp [RdAt.one hv]; rfl) tS27 fun A H1 hS => ?_
  repeat first | (with_reducible first | refine Wp.seq ?_ | refine Wp.reg ?_ | refine Wp.block ?_ | refine Wp.skip ?_ | refine Wp.ret ?_ | refine Wp.exit ?_ | refine Wp.label ?_ | refine Wp.condG ?_) | simp (disch := omega) only [↓RP, RQ, TS, TR, ↓reduceIte, Nat.reduceEqDiff, Nat.reduceLT, Nat.reduceLeDiff, Int.reduceLT, Int.reduceLE, Int.reduceEq, Int.reduceAdd, Int.reduceSub, Int.reduceNeg, Int.reduceToNat, Nat.reduceAdd, Nat.reduceMul, Nat.reduceSub, reduceCtorEq, RC, Int.cast_ofNat_Int, hn, g0, g1, hS.ldA 0 rfl]
  refine callFW_of (distanceZ_ok N v es (hS.base hv) he x hc) ?_
  rintro r H3 ⟨rfl, hS2⟩
  have hS := (hS.trans hS2).nil 0
  simp only [List.nil_append, List.cons_append, List.append_nil, List.set_cons_zero, List.set_cons_succ, setMany_cons, setMany_nil, Nat.zero_add, Nat.mul_one, Nat.add_zero] at hS
  generalize chk2 N es [x] = e at hc ⊢
  have hnil : Sl1 H3 (.slice none 0 0) (fun n : Nat => I n) [] := hS.rd 1 rfl
  repeat first | (with_reducible first | refine Wp.seq ?_ | refine Wp.reg ?_ | refine Wp.block ?_ | refine Wp.skip ?_ | refine Wp.ret ?_ | refine Wp.exit ?_ | refine Wp.label ?_ | refine Wp.condG ?_) | simp (disch := omega) only [↓RP, RQ, TS, TR, ↓reduceIte, Nat.reduceEqDiff, Nat.reduceLT, Nat.reduceLeDiff, Int.reduceLT, Int.reduceLE, Int.reduceEq, Int.reduceAdd, Int.reduceSub, Int.reduceNeg, Int.reduceToNat, Nat.reduceAdd, Nat.reduceMul, Nat.reduceSub, reduceCtorEq, RC, Int.cast_ofNat_Int, hn, g0, g1, hnil.len]
  refine Wp.loopN (fun n l H' => H' = H3 ∧ l.length = 33 ∧ get l 7 = I e ∧ get l 8 = .slice none 0 0 ∧ get l 18 = I 0 ∧ get l 19 = I 0) 0 ?_ ?_
  · repeat first | (with_reducible first | refine Wp.seq ?_ | refine Wp.reg ?_ | refine Wp.block ?_ | refine Wp.skip ?_ | refine Wp.ret ?_ | refine Wp.exit ?_ | refine Wp.label ?_ | refine Wp.condG ?_) | simp (disch := omega) only [↓RP, RQ, TS, TR, ↓reduceIte, Nat.reduceEqDiff, Nat.reduceLT, Nat.reduceLeDiff, Int.reduceLT, Int.reduceLE, Int.reduceEq, Int.reduceAdd, Int.reduceSub, Int.reduceNeg, Int.reduceToNat, Nat.reduceAdd, Nat.reduceMul, Nat.reduceSub, reduceCtorEq, RC, Int.cast_ofNat_Int, hn, g0, g1]
  clear hn g0 g1
  rintro n l H' ⟨rfl, hn, g7, g8, g18, g19⟩
  repeat first | (with_reducible first | refine Wp.seq ?_ | refine Wp.reg ?_ | refine Wp.block ?_ | refine Wp.skip ?_ | refine Wp.ret ?_ | refine Wp.exit ?_ | refine Wp.label ?_ | refine Wp.condG ?_) | simp (disch := omega) only [↓RP, RQ, TS, TR, ↓reduceIte, Nat.reduceEqDiff, Nat.reduceLT, Nat.reduceLeDiff, Int.reduceLT, Int.reduceLE, Int.reduceEq, Int.reduceAdd, Int.reduceSub, Int.reduceNeg, Int.reduceToNat, Nat.reduceAdd, Nat.reduceMul, Nat.reduceSub, reduceCtorEq, RC, Int.cast_ofNat_Int, hn, g7, g8, g18, g19]
  exact hS.forget
end Go.Ds
/-
  Plain graphs: the reference's way is the program's.
-/
namespace Go.Plain

theorem W_cons {es : List (Nat × Nat)} : ∀ {n a b : Nat}, W es (n + 1) a b ↔ ∃ c, (a, c) ∈ es ∧ W es n c b
  | 0, a, b => by
    constructor
    · rintro ⟨c, hc, h⟩
      have : a = c := hc
      subst this
      exact ⟨b, h, rfl⟩
    · rintro ⟨c, h, hc⟩
      have : c = b := hc
      subst this
      exact ⟨a, rfl, h⟩
  | n + 1, a, b => by
    constructor
    · rintro ⟨c, hc, h⟩
      obtain ⟨c', h1, h2⟩ := W_cons.1 hc
      exact ⟨c', h1, c, h2, h⟩
    · rintro ⟨c, h, c', h1, h2⟩
      exact ⟨c', W_cons.2 ⟨c, h, h1⟩, h2⟩

theorem W_rev {es : List (Nat × Nat)} : ∀ {n a b : Nat}, W (tE es) n a b ↔ W es n b a
  | 0, a, b => by constructor <;> (intro h; exact Eq.symm h)
  | n + 1, a, b => by
    rw [W_cons]
    constructor
    · rintro ⟨c, h1, h2⟩
      exact ⟨c, W_rev.1 h2, mem_tE.1 h1⟩
    · rintro ⟨c, h1, h2⟩
      exact ⟨c, mem_tE.2 h2, W_rev.2 h1⟩

section
variable {es : List (Nat × Nat)} {N t : Nat} {d : List Int} {rows : Nat → List Nat}

theorem IsD.self (hd : IsD (tE es) N t d) (ht : t < N) : d.getD t 0 = 0 := by
  by_cases h : d.getD t 0 < 0
  · exact ((hd.neg t ht h).2 0 rfl).elim
  · have := (hd.pos t ht (by omega)).2 0 rfl
    omega

theorem IsD.zero (hd : IsD (tE es) N t d) {i : Nat} (hi : i < N) (h : d.getD i 0 = 0) : i = t := by
  have := (hd.pos i hi (by omega)).1
  rw [h] at this
  exact Eq.symm this

/-- A way of at least one edge: the table of steps has what the table of distances has. -/
theorem steps_eq (hd : IsD (tE es) N t d) (hr : ∀ i, i < N → IsS es N i (rows i)) (ht : t < N) {i : Nat} (hi : i < N) (hit : i ≠ t) : d.getD i 0 = if (rows i).getD t 0 = 0 then -1 else ((rows i).getD t 0 : Int) := by
  split
  · rename_i h0
    by_cases h : d.getD i 0 < 0
    · exact (hd.neg i hi h).1
    · have h1 := (hd.pos i hi (by omega)).1
      cases hm : (d.getD i 0).toNat with
      | zero => rw [hm] at h1; exact (hit (Eq.symm h1)).elim
      | succ m => rw [hm] at h1; exact ((hr i hi).zero t ht h0 m (W_rev.1 h1)).elim
  · rename_i h0
    have h1 := (hr i hi).pos t ht (by omega)
    by_cases h : d.getD i 0 < 0
    · exact ((hd.neg i hi h).2 _ (W_rev.2 h1.1)).elim
    · have h2 := hd.pos i hi (by omega)
      have h3 := h2.2 _ (W_rev.2 h1.1)
      cases hm : (d.getD i 0).toNat with
      | zero => rw [hm] at h2; exact (hit (Eq.symm h2.1)).elim
      | succ m =>
        rw [hm] at h2
        have h4 := h1.2 m (W_rev.1 h2.1)
        omega

/-- What the reference asks of an edge. -/
theorem ref_mt (hd : IsD (tE es) N t d) (hr : ∀ i, i < N → IsS es N i (rows i)) (hv : ∀ e ∈ es, e.1 < N ∧ e.2 < N) (ht : t < N) {e : Nat × Nat} (he : e ∈ es) {m : Nat} (hm : d.getD e.1 0 = (m + 1 : Nat)) :
    d.getD e.2 0 = (m : Int) ↔ (m = 0 ∧ e.2 = t) ∨ (0 < m ∧ (rows e.2).getD t 0 = m) := by
  have h1 := (hv e he).1
  have h2 := (hv e he).2
  cases m with
  | zero =>
    constructor
    · intro h
      exact .inl ⟨rfl, hd.zero h2 h⟩
    · rintro (⟨_, h⟩ | ⟨h, _⟩)
      · rw [h]; exact hd.self ht
      · omega
  | succ m =>
    have hne : e.2 ≠ t := by
      intro h
      have h3 := (hd.pos e.1 h1 (by omega)).2 1 ⟨t, rfl, mem_tE.2 (by rw [← h]; exact he)⟩
      omega
    have h3 := steps_eq hd hr ht h2 hne
    rw [h3]
    constructor
    · intro h
      right
      refine ⟨by omega, ?_⟩
      split at h <;> omega
    · rintro (⟨h, _⟩ | ⟨_, h⟩)
      · omega
      · rw [if_neg (by omega), h]
end
end Go.Plain
/-
  Contracts: Path, the reference's Walk.
-/
namespace Go.Ds
open Go.Proofs Go.Plain
variable {H : Heap}

theorem path_ok (N : Nat) (v : Value) (es : List (Nat × Nat)) (hv : Eg H v es) (hN : N ≤ 200) (he : es.length ≤ 1000) (hval : ∀ e ∈ es, e.1 < N ∧ e.2 < N) (s t : Nat) (hs : s < N) (ht : t < N) :
    Fn Try.prog 14 [.agg #[I N, v], I s, I t] H fun r H' => ∃ (d : List Int) (w : Value), IsD (tE es) N t d ∧ (∀ k, k < N → d.getD k 0 ≤ N) ∧ r = .tuple #[w, .bool (decide (0 ≤ d.getD s 0)), I 0] ∧
      St Try.prog H H' [⟨w, 1, nts (if 0 ≤ d.getD s 0 then pF es 0 d (d.getD s 0).toNat s else [])⟩] := by
  refine Fn.of_wp (fn := Try.f14) rfl rfl (by kernel_rfl) fun l hl => ?_
  have hn : l.length = 27 := by rw [hl]; rfl
  have g0 : get l 0 = .agg #[I N, v] := by rw [hl]; rfl
  have g1 : get l 1 = I s := by rw [hl]; rfl
  have g2 : get l 2 = I t := by rw [hl]; rfl
  clear hl
  repeat first | (with_reducible first | refine Wp.seq ?_ | refine Wp.reg ?_ | refine Wp.block ?_ | refine Wp.skip ?_ | refine Wp.ret ?_ | refine Wp.exit ?_ | refine Wp.label ?_ | refine Wp.condG ?_) | simp (disch := omega) only [↓RP, RQ, TS, TR, ↓reduceIte, Nat.reduceEqDiff, Nat.reduceLT, Nat.reduceLeDiff, Int.reduceLT, Int.reduceLE, Int.reduceEq, Int.reduceAdd, Int.reduceSub, Int.reduceNeg, Int.reduceToNat, Nat.reduceAdd, Nat.reduceMul, Nat.reduceSub, reduceCtorEq, RC, Int.cast_ofNat_Int, hn, g0, g1, g2]
  refine (St.refl _ H).eNew 2 [I N, v] rfl rfl (by simp [hv.one]; rfl) tS27 fun A H1 hS => ?_
  repeat first | (with_reducible first | refine Wp.seq ?_ | refine Wp.reg ?_ | refine Wp.block ?_ | refine Wp.skip ?_ | refine Wp.ret ?_ | refine Wp.exit ?_ | refine Wp.label ?_ | refine Wp.condG ?_) | simp (disch := omega) only [↓RP, RQ, TS, TR, ↓reduceIte, Nat.reduceEqDiff, Nat.reduceLT, Nat.reduceLeDiff, Int.reduceLT, Int.reduceLE, Int.reduceEq, Int.reduceAdd, Int.reduceSub, Int.reduceNeg, Int.reduceToNat, Nat.reduceAdd, Nat.reduceMul, Nat.reduceSub, reduceCtorEq, RC, Int.cast_ofNat_Int, hn, g0, g1, g2, hS.ldA 0 rfl]
  refine hS.eSlice [I s, I t] tP29 tF29 rfl rfl (by simp [Value.cells]) rfl rfl (by decide) (by decide) fun x H2 hS => ?_
  repeat first | (with_reducible first | refine Wp.seq ?_ | refine Wp.reg ?_ | refine Wp.block ?_ | refine Wp.skip ?_ | refine Wp.ret ?_ | refine Wp.exit ?_ | refine Wp.label ?_ | refine Wp.condG ?_) | simp (disch := omega) only [↓RP, RQ, TS, TR, ↓reduceIte, Nat.reduceEqDiff, Nat.reduceLT, Nat.reduceLeDiff, Int.reduceLT, Int.reduceLE, Int.reduceEq, Int.reduceAdd, Int.reduceSub, Int.reduceNeg, Int.reduceToNat, Nat.reduceAdd, Nat.reduceMul, Nat.reduceSub, reduceCtorEq, RC, Int.cast_ofNat_Int, hn, g0, g1, g2]
  refine callFW_of (with_ok N v es (hS.base hv) hN he hval x [s, t] (hS.rd 1 rfl) (by simp) (by simp [hs, ht])) ?_
  rintro r H3 ⟨rfl, hS3⟩
  have hS := hS.trans hS3
  repeat first | (with_reducible first | refine Wp.seq ?_ | refine Wp.reg ?_ | refine Wp.block ?_ | refine Wp.skip ?_ | refine Wp.ret ?_ | refine Wp.exit ?_ | refine Wp.label ?_ | refine Wp.condG ?_) | simp (disch := omega) only [↓RP, RQ, TS, TR, ↓reduceIte, Nat.reduceEqDiff, Nat.reduceLT, Nat.reduceLeDiff, Int.reduceLT, Int.reduceLE, Int.reduceEq, Int.reduceAdd, Int.reduceSub, Int.reduceNeg, Int.reduceToNat, Nat.reduceAdd, Nat.reduceMul, Nat.reduceSub, reduceCtorEq, RC, Int.cast_ofNat_Int, hn, g0, g1, g2, hS.ldA 0 rfl]
  refine callFW_of (walk_ok N v es (hS.base hv) hN he hval s t 0 hs ht (Nat.zero_le _)) ?_
  rintro r H4 ⟨d, w, hd, hdN, rfl, hS4⟩
  have hS := hS.trans hS4
  have hw := hS.rd 2 rfl
  repeat first | (with_reducible first | refine Wp.seq ?_ | refine Wp.reg ?_ | refine Wp.block ?_ | refine Wp.skip ?_ | refine Wp.ret ?_ | refine Wp.exit ?_ | refine Wp.label ?_ | refine Wp.condG ?_) | simp (disch := omega) only [↓RP, RQ, TS, TR, ↓reduceIte, Nat.reduceEqDiff, Nat.reduceLT, Nat.reduceLeDiff, Int.reduceLT, Int.reduceLE, Int.reduceEq, Int.reduceAdd, Int.reduceSub, Int.reduceNeg, Int.reduceToNat, Nat.reduceAdd, Nat.reduceMul, Nat.reduceSub, reduceCtorEq, RC, Int.cast_ofNat_Int, hn, g0, g1, g2, hw.noTuple]
  exact ⟨d, w, hd, hdN, rfl, hS.sub (by simp)⟩

theorem pF_length (es : List (Nat × Nat)) (first : Nat) (d : List Int) : ∀ m a, (pF es first d m a).length = m
  | 0, _ => rfl
  | m + 1, a => by rw [pF, List.length_cons, pF_length es first d m]

theorem refWalk_ok (N : Nat) (ev st : Value) (es : List (Nat × Nat)) (ws : Nat → Value) (rows : Nat → List Nat) (d : List Int) (s t : Nat) (hE : Eg H ev es) (hst : Sl1 H st ws (List.range N)) (hrow : ∀ i, i < N → Sl1 H (ws i) (fun n : Nat => I n) (rows i))
    (hrows : ∀ i, i < N → IsS es N i (rows i)) (hd : IsD (tE es) N t d) (hval : ∀ e ∈ es, e.1 < N ∧ e.2 < N) (hs : s < N) (ht : t < N) (he : es.length ≤ 1000) (hN : N ≤ 200) (hpos : 0 < d.getD s 0) (hdN : d.getD s 0 ≤ 1000) :
    Fn Try.prog 18 [ev, st, I s, I t] H fun r H' => St Try.prog H H' [⟨r, 1, nts (pF es 0 d (d.getD s 0).toNat s)⟩] := by
  have hsd := steps_eq hd hrows ht hs (fun e => by subst e; rw [hd.self hs] at hpos; omega)
  have hsd2 : ((rows s).getD t 0 : Int) = d.getD s 0 := by
    split at hsd <;> omega
  have hrl : (List.range N).length = N := List.length_range
  have hrlen := fun i hi => (hrows i hi).len
  have hrls := hrlen s hs
  have hrow0 := hrow s hs
  refine Fn.of_wp (fn := Try.f18) rfl rfl (by kernel_rfl) fun l hl => ?_
  have hn : l.length = 89 := by rw [hl]; rfl
  have g0 : get l 0 = ev := by rw [hl]; rfl
  have g1 : get l 1 = st := by rw [hl]; rfl
  have g2 : get l 2 = I s := by rw [hl]; rfl
  have g3 : get l 3 = I t := by rw [hl]; rfl
  clear hl
  repeat first | (with_reducible first | refine Wp.seq ?_ | refine Wp.reg ?_ | refine Wp.block ?_ | refine Wp.skip ?_ | refine Wp.ret ?_ | refine Wp.exit ?_ | refine Wp.label ?_ | refine Wp.condG ?_) | simp (disch := omega) only [↓RP, RQ, TS, TR, ↓reduceIte, Nat.reduceEqDiff, Nat.reduceLT, Nat.reduceLeDiff, Int.reduceLT, Int.reduceLE, Int.reduceEq, Int.reduceAdd, Int.reduceSub, Int.reduceNeg, Int.reduceToNat, Nat.reduceAdd, Nat.reduceMul, Nat.reduceSub, reduceCtorEq, RC, Int.cast_ofNat_Int, hn, g0, g1, g2, g3, hst.idx, hst.ld 0, getD_range, hrow0.idx, hrow0.ld 0, hsd2]
  refine Wp.loopN (fun m l H' => l.length = 89 ∧ get l 0 = ev ∧ get l 1 = st ∧ get l 3 = I t ∧ ∃ (a : Nat) (o : Value) (p : List Nat), get l 9 = o ∧ get l 10 = I a ∧ get l 11 = I m ∧ a < N ∧ d.getD a 0 = (m : Int) ∧
    p ++ pF es 0 d m a = pF es 0 d (d.getD s 0).toNat s ∧ p.length + m = (d.getD s 0).toNat ∧ St Try.prog H H' [⟨o, 1, nts p⟩]) (d.getD s 0).toNat ?_ ?_
  · repeat first | (with_reducible first | refine Wp.seq ?_ | refine Wp.reg ?_ | refine Wp.block ?_ | refine Wp.skip ?_ | refine Wp.ret ?_ | refine Wp.exit ?_ | refine Wp.label ?_ | refine Wp.condG ?_) | simp (disch := omega) only [↓RP, RQ, TS, TR, ↓reduceIte, Nat.reduceEqDiff, Nat.reduceLT, Nat.reduceLeDiff, Int.reduceLT, Int.reduceLE, Int.reduceEq, Int.reduceAdd, Int.reduceSub, Int.reduceNeg, Int.reduceToNat, Nat.reduceAdd, Nat.reduceMul, Nat.reduceSub, reduceCtorEq, RC, Int.cast_ofNat_Int, hn, g0, g1, g2, g3]
    refine ⟨s, _, [], rfl, rfl, ?_, hs, by omega, rfl, by simp, (St.refl _ H).nil 0⟩
    rw [Int.toNat_of_nonneg (by omega)]
  clear hn g0 g1 g2 g3
  rintro m l H' ⟨hn, g0, g1, g3, a, o, p, g9, g10, g11, haN, hda, hp, hpl, hS⟩
  repeat first | (with_reducible first | refine Wp.seq ?_ | refine Wp.reg ?_ | refine Wp.block ?_ | refine Wp.skip ?_ | refine Wp.ret ?_ | refine Wp.exit ?_ | refine Wp.label ?_ | refine Wp.condG ?_) | simp (disch := omega) only [↓RP, RQ, TS, TR, ↓reduceIte, Nat.reduceEqDiff, Nat.reduceLT, Nat.reduceLeDiff, Int.reduceLT, Int.reduceLE, Int.reduceEq, Int.reduceAdd, Int.reduceSub, Int.reduceNeg, Int.reduceToNat, Nat.reduceAdd, Nat.reduceMul, Nat.reduceSub, reduceCtorEq, RC, Int.cast_ofNat_Int, hn, g0, g1, g3, g9, g10, g11]
  refine condW_split (fun h => ?_) (fun h => ?_)
  · obtain ⟨m', rfl⟩ : ∃ m', m = m' + 1 := ⟨m - 1, by omega⟩
    have hE1 : Sl2 H' ev _ _ es := hS.base hE
    have hst1 : Sl1 H' st ws (List.range N) := hS.base hst
    obtain ⟨k1, k2, k3, k4⟩ := pk_spec es 0 d m' a (nearer hval (by simpa using hd) a m' haN hda)
    repeat first | (with_reducible first | refine Wp.seq ?_ | refine Wp.reg ?_ | refine Wp.block ?_ | refine Wp.skip ?_ | refine Wp.ret ?_ | refine Wp.exit ?_ | refine Wp.label ?_ | refine Wp.condG ?_) | simp (disch := omega) only [↓RP, RQ, TS, TR, ↓reduceIte, Nat.reduceEqDiff, Nat.reduceLT, Nat.reduceLeDiff, Int.reduceLT, Int.reduceLE, Int.reduceEq, Int.reduceAdd, Int.reduceSub, Int.reduceNeg, Int.reduceToNat, Nat.reduceAdd, Nat.reduceMul, Nat.reduceSub, reduceCtorEq, RC, Int.cast_ofNat_Int, hn, g0, g1, g3, g9, g10, g11]
    refine Wp.mono (Q := fun e l2 H2 => e = .exit 2 ∧ H2 = H' ∧ l2.length = 89 ∧ get l2 0 = ev ∧ get l2 1 = st ∧ get l2 3 = I t ∧ get l2 9 = o ∧ get l2 10 = I a ∧ get l2 11 = I (m' + 1 : Nat) ∧ get l2 12 = I (pk es 0 d m' a)) ?_ ?_
    · refine Wp.loopN (fun n l H2 => H2 = H' ∧ l.length = 89 ∧ get l 0 = ev ∧ get l 1 = st ∧ get l 3 = I t ∧ get l 9 = o ∧ get l 10 = I a ∧ get l 11 = I (m' + 1 : Nat) ∧ ∃ (k : Nat) (x : Int), n + k = es.length ∧ get l 13 = I k ∧ get l 12 = I x ∧
      ((x = -1 ∧ k ≤ pk es 0 d m' a) ∨ x = pk es 0 d m' a)) es.length ?_ ?_
      · repeat first | (with_reducible first | refine Wp.seq ?_ | refine Wp.reg ?_ | refine Wp.block ?_ | refine Wp.skip ?_ | refine Wp.ret ?_ | refine Wp.exit ?_ | refine Wp.label ?_ | refine Wp.condG ?_) | simp (disch := omega) only [↓RP, RQ, TS, TR, ↓reduceIte, Nat.reduceEqDiff, Nat.reduceLT, Nat.reduceLeDiff, Int.reduceLT, Int.reduceLE, Int.reduceEq, Int.reduceAdd, Int.reduceSub, Int.reduceNeg, Int.reduceToNat, Nat.reduceAdd, Nat.reduceMul, Nat.reduceSub, reduceCtorEq, RC, Int.cast_ofNat_Int, hn, g0, g1, g3, g9, g10, g11]
        exact ⟨0, -1, rfl, rfl, rfl, .inl ⟨rfl, Nat.zero_le _⟩⟩
      clear hn g0 g1 g3 g9 g10 g11
      rintro n l H2 ⟨rfl, hn, g0, g1, g3, g9, g10, g11, k, x, hk, g13, g12, hx⟩
      repeat first | (with_reducible first | refine Wp.seq ?_ | refine Wp.reg ?_ | refine Wp.block ?_ | refine Wp.skip ?_ | refine Wp.ret ?_ | refine Wp.exit ?_ | refine Wp.label ?_ | refine Wp.condG ?_) | simp (disch := omega) only [↓RP, RQ, TS, TR, ↓reduceIte, Nat.reduceEqDiff, Nat.reduceLT, Nat.reduceLeDiff, Int.reduceLT, Int.reduceLE, Int.reduceEq, Int.reduceAdd, Int.reduceSub, Int.reduceNeg, Int.reduceToNat, Nat.reduceAdd, Nat.reduceMul, Nat.reduceSub, reduceCtorEq, RC, Int.cast_ofNat_Int, hn, g0, g1, g3, g9, g10, g11, g12, g13, hE1.len]
      refine letG_split (fun h1 => ?_) (fun h1 => ?_)
      · repeat first | (with_reducible first | refine Wp.seq ?_ | refine Wp.reg ?_ | refine Wp.block ?_ | refine Wp.skip ?_ | refine Wp.ret ?_ | refine Wp.exit ?_ | refine Wp.label ?_ | refine Wp.condG ?_) | simp (disch := omega) only [↓RP, RQ, TS, TR, ↓reduceIte, Nat.reduceEqDiff, Nat.reduceLT, Nat.reduceLeDiff, Int.reduceLT, Int.reduceLE, Int.reduceEq, Int.reduceAdd, Int.reduceSub, Int.reduceNeg, Int.reduceToNat, Nat.reduceAdd, Nat.reduceMul, Nat.reduceSub, reduceCtorEq, RC, Int.cast_ofNat_Int, hn, g0, g1, g3, g9, g10, g11, g12, g13, h1]
        refine condW_split (fun h2 => ?_) (fun h2 => ?_)
        · have hkp : k ≤ pk es 0 d m' a := by
            rcases hx with hx | hx
            · exact hx.2
            · omega
          have hx1 : x = -1 := by
            rcases hx with hx | hx
            · exact hx.1
            · omega
          have hkl : k < es.length := by omega
          have hm := hval _ (getD_mem (0, 0) hkl)
          have hme := getD_mem (0, 0) hkl
          have hr1 := (hrow _ hm.2)
          have hr2 : Sl1 H2 (ws (es.getD k (0, 0)).2) (fun n : Nat => I n) (rows (es.getD k (0, 0)).2) := hS.base hr1
          have hr3 := hrlen _ hm.2
          have hno : ¬ mt d m' a (es.getD k (0, 0)) = true → k ≠ pk es 0 d m' a := fun h e => h (by rw [e]; exact k3)
          have hyes : mt d m' a (es.getD k (0, 0)) = true → k = pk es 0 d m' a := fun h => by
            rcases Nat.lt_or_ge k (pk es 0 d m' a) with h5 | h5
            · rw [k4 k (Nat.zero_le _) h5] at h; cases h
            · omega
          repeat first | (with_reducible first | refine Wp.seq ?_ | refine Wp.reg ?_ | refine Wp.block ?_ | refine Wp.skip ?_ | refine Wp.ret ?_ | refine Wp.exit ?_ | refine Wp.label ?_ | refine Wp.condG ?_) | simp (disch := omega) only [↓RP, RQ, TS, TR, ↓reduceIte, Nat.reduceEqDiff, Nat.reduceLT, Nat.reduceLeDiff, Int.reduceLT, Int.reduceLE, Int.reduceEq, Int.reduceAdd, Int.reduceSub, Int.reduceNeg, Int.reduceToNat, Nat.reduceAdd, Nat.reduceMul, Nat.reduceSub, reduceCtorEq, RC, Int.cast_ofNat_Int, hn, g0, g1, g3, g9, g10, g11, g12, g13, hE1.idx, hE1.fld, hE1.ld0 (0, 0), hE1.ld1 (0, 0), hst1.idx, hst1.ld 0, getD_range, hr2.idx, hr2.ld 0]
          refine letG_split (fun h3 => ?_) (fun h3 => ?_)
          · have href := ref_mt hd hrows hval ht hme (m := m') (by rw [show (es.getD k (0, 0)).1 = a from by omega]; exact hda)
            repeat first | (with_reducible first | refine Wp.seq ?_ | refine Wp.reg ?_ | refine Wp.block ?_ | refine Wp.skip ?_ | refine Wp.ret ?_ | refine Wp.exit ?_ | refine Wp.label ?_ | refine Wp.condG ?_) | simp (disch := omega) only [↓RP, RQ, TS, TR, ↓reduceIte, Nat.reduceEqDiff, Nat.reduceLT, Nat.reduceLeDiff, Int.reduceLT, Int.reduceLE, Int.reduceEq, Int.reduceAdd, Int.reduceSub, Int.reduceNeg, Int.reduceToNat, Nat.reduceAdd, Nat.reduceMul, Nat.reduceSub, reduceCtorEq, RC, Int.cast_ofNat_Int, hn, g0, g1, g3, g9, g10, g11, g12, g13, h3, hE1.idx, hE1.fld, hE1.ld0 (0, 0), hE1.ld1 (0, 0)]
            refine letG_split (fun h4 => ?_) (fun h4 => ?_)
            · repeat first | (with_reducible first | refine Wp.seq ?_ | refine Wp.reg ?_ | refine Wp.block ?_ | refine Wp.skip ?_ | refine Wp.ret ?_ | refine Wp.exit ?_ | refine Wp.label ?_ | refine Wp.condG ?_) | simp (disch := omega) only [↓RP, RQ, TS, TR, ↓reduceIte, Nat.reduceEqDiff, Nat.reduceLT, Nat.reduceLeDiff, Int.reduceLT, Int.reduceLE, Int.reduceEq, Int.reduceAdd, Int.reduceSub, Int.reduceNeg, Int.reduceToNat, Nat.reduceAdd, Nat.reduceMul, Nat.reduceSub, reduceCtorEq, RC, Int.cast_ofNat_Int, hn, g0, g1, g3, g9, g10, g11, g12, g13, h3, h4, hE1.idx, hE1.fld, hE1.ld0 (0, 0), hE1.ld1 (0, 0)]
              refine letG_split' (fun h5 => ?_) (fun h5 => ?_)
              · have hy := hyes ((mt_iff ..).2 ⟨by omega, href.2 (.inl ⟨by omega, by omega⟩)⟩)
                repeat first | (with_reducible first | refine Wp.seq ?_ | refine Wp.reg ?_ | refine Wp.block ?_ | refine Wp.skip ?_ | refine Wp.ret ?_ | refine Wp.exit ?_ | refine Wp.label ?_ | refine Wp.condG ?_) | simp (disch := omega) only [↓RP, RQ, TS, TR, ↓reduceIte, Nat.reduceEqDiff, Nat.reduceLT, Nat.reduceLeDiff, Int.reduceLT, Int.reduceLE, Int.reduceEq, Int.reduceAdd, Int.reduceSub, Int.reduceNeg, Int.reduceToNat, Nat.reduceAdd, Nat.reduceMul, Nat.reduceSub, reduceCtorEq, RC, Int.cast_ofNat_Int, hn, g0, g1, g3, g9, g10, g11, g12, g13, h3, h4, h5, wrap_fit]
                exact ⟨n - 1, by omega, k + 1, k, by omega, rfl, rfl, .inr (by omega)⟩
              · have hy := hno (fun hh => by
                  rcases href.1 ((mt_iff ..).1 hh).2 with h6 | h6
                  · omega
                  · omega)
                repeat first | (with_reducible first | refine Wp.seq ?_ | refine Wp.reg ?_ | refine Wp.block ?_ | refine Wp.skip ?_ | refine Wp.ret ?_ | refine Wp.exit ?_ | refine Wp.label ?_ | refine Wp.condG ?_) | simp (disch := omega) only [↓RP, RQ, TS, TR, ↓reduceIte, Nat.reduceEqDiff, Nat.reduceLT, Nat.reduceLeDiff, Int.reduceLT, Int.reduceLE, Int.reduceEq, Int.reduceAdd, Int.reduceSub, Int.reduceNeg, Int.reduceToNat, Nat.reduceAdd, Nat.reduceMul, Nat.reduceSub, reduceCtorEq, RC, Int.cast_ofNat_Int, hn, g0, g1, g3, g9, g10, g11, g12, g13, h3, h4, h5, wrap_fit]
                exact ⟨n - 1, by omega, k + 1, x, by omega, rfl, rfl, .inl ⟨hx1, by omega⟩⟩
            · have h6 : (1 : Int) < ((m' + 1 : Nat) : Int) := by omega
              repeat first | (with_reducible first | refine Wp.seq ?_ | refine Wp.reg ?_ | refine Wp.block ?_ | refine Wp.skip ?_ | refine Wp.ret ?_ | refine Wp.exit ?_ | refine Wp.label ?_ | refine Wp.condG ?_) | simp (disch := omega) only [↓RP, RQ, TS, TR, ↓reduceIte, Nat.reduceEqDiff, Nat.reduceLT, Nat.reduceLeDiff, Int.reduceLT, Int.reduceLE, Int.reduceEq, Int.reduceAdd, Int.reduceSub, Int.reduceNeg, Int.reduceToNat, Nat.reduceAdd, Nat.reduceMul, Nat.reduceSub, reduceCtorEq, RC, Int.cast_ofNat_Int, hn, g0, g1, g3, g9, g10, g11, g12, g13, h3, h4, h6, wrap_fit]
              refine condW_split (fun h5 => ?_) (fun h5 => ?_)
              · have hy := hyes ((mt_iff ..).2 ⟨by omega, href.2 (.inr ⟨by omega, by omega⟩)⟩)
                repeat first | (with_reducible first | refine Wp.seq ?_ | refine Wp.reg ?_ | refine Wp.block ?_ | refine Wp.skip ?_ | refine Wp.ret ?_ | refine Wp.exit ?_ | refine Wp.label ?_ | refine Wp.condG ?_) | simp (disch := omega) only [↓RP, RQ, TS, TR, ↓reduceIte, Nat.reduceEqDiff, Nat.reduceLT, Nat.reduceLeDiff, Int.reduceLT, Int.reduceLE, Int.reduceEq, Int.reduceAdd, Int.reduceSub, Int.reduceNeg, Int.reduceToNat, Nat.reduceAdd, Nat.reduceMul, Nat.reduceSub, reduceCtorEq, RC, Int.cast_ofNat_Int, hn, g0, g1, g3, g9, g10, g11, g12, g13, wrap_fit]
                exact ⟨n - 1, by omega, k + 1, k, by omega, rfl, rfl, .inr (by omega)⟩
              · have hy := hno (fun hh => by
                  rcases href.1 ((mt_iff ..).1 hh).2 with h7 | h7
                  · omega
                  · omega)
                repeat first | (with_reducible first | refine Wp.seq ?_ | refine Wp.reg ?_ | refine Wp.block ?_ | refine Wp.skip ?_ | refine Wp.ret ?_ | refine Wp.exit ?_ | refine Wp.label ?_ | refine Wp.condG ?_) | simp (disch := omega) only [↓RP, RQ, TS, TR, ↓reduceIte, Nat.reduceEqDiff, Nat.reduceLT, Nat.reduceLeDiff, Int.reduceLT, Int.reduceLE, Int.reduceEq, Int.reduceAdd, Int.reduceSub, Int.reduceNeg, Int.reduceToNat, Nat.reduceAdd, Nat.reduceMul, Nat.reduceSub, reduceCtorEq, RC, Int.cast_ofNat_Int, hn, g0, g1, g3, g9, g10, g11, g12, g13, wrap_fit]
                exact ⟨n - 1, by omega, k + 1, x, by omega, rfl, rfl, .inl ⟨hx1, by omega⟩⟩
          · have hy := hno (fun hh => h3 (by rw [((mt_iff ..).1 hh).1]))
            repeat first | (with_reducible first | refine Wp.seq ?_ | refine Wp.reg ?_ | refine Wp.block ?_ | refine Wp.skip ?_ | refine Wp.ret ?_ | refine Wp.exit ?_ | refine Wp.label ?_ | refine Wp.condG ?_) | simp (disch := omega) only [↓RP, RQ, TS, TR, ↓reduceIte, Nat.reduceEqDiff, Nat.reduceLT, Nat.reduceLeDiff, Int.reduceLT, Int.reduceLE, Int.reduceEq, Int.reduceAdd, Int.reduceSub, Int.reduceNeg, Int.reduceToNat, Nat.reduceAdd, Nat.reduceMul, Nat.reduceSub, reduceCtorEq, RC, Int.cast_ofNat_Int, hn, g0, g1, g3, g9, g10, g11, g12, g13, h3, wrap_fit]
            exact ⟨n - 1, by omega, k + 1, x, by omega, rfl, rfl, .inl ⟨hx1, by omega⟩⟩
        · repeat first | (with_reducible first | refine Wp.seq ?_ | refine Wp.reg ?_ | refine Wp.block ?_ | refine Wp.skip ?_ | refine Wp.ret ?_ | refine Wp.exit ?_ | refine Wp.label ?_ | refine Wp.condG ?_) | simp (disch := omega) only [↓RP, RQ, TS, TR, ↓reduceIte, Nat.reduceEqDiff, Nat.reduceLT, Nat.reduceLeDiff, Int.reduceLT, Int.reduceLE, Int.reduceEq, Int.reduceAdd, Int.reduceSub, Int.reduceNeg, Int.reduceToNat, Nat.reduceAdd, Nat.reduceMul, Nat.reduceSub, reduceCtorEq, RC, Int.cast_ofNat_Int, hn, g0, g1, g3, g9, g10, g11, g12, g13]
          rcases hx with hx | hx
          · omega
          · rw [hx]
      · repeat first | (with_reducible first | refine Wp.seq ?_ | refine Wp.reg ?_ | refine Wp.block ?_ | refine Wp.skip ?_ | refine Wp.ret ?_ | refine Wp.exit ?_ | refine Wp.label ?_ | refine Wp.condG ?_) | simp (disch := omega) only [↓RP, RQ, TS, TR, ↓reduceIte, Nat.reduceEqDiff, Nat.reduceLT, Nat.reduceLeDiff, Int.reduceLT, Int.reduceLE, Int.reduceEq, Int.reduceAdd, Int.reduceSub, Int.reduceNeg, Int.reduceToNat, Nat.reduceAdd, Nat.reduceMul, Nat.reduceSub, reduceCtorEq, RC, Int.cast_ofNat_Int, hn, g0, g1, g3, g9, g10, g11, g12, g13, h1]
        rcases hx with hx | hx
        · omega
        · rw [hx]
    · clear hn g0 g1 g3 g9 g10 g11
      rintro e l H2 ⟨rfl, rfl, hn, g0, g1, g3, g9, g10, g11, g12⟩
      have hmt := (mt_iff ..).1 k3
      have hk2 := (hval _ (getD_mem (0, 0) k2)).2
      repeat first | (with_reducible first | refine Wp.seq ?_ | refine Wp.reg ?_ | refine Wp.block ?_ | refine Wp.skip ?_ | refine Wp.ret ?_ | refine Wp.exit ?_ | refine Wp.label ?_ | refine Wp.condG ?_) | simp (disch := omega) only [↓RP, RQ, TS, TR, ↓reduceIte, Nat.reduceEqDiff, Nat.reduceLT, Nat.reduceLeDiff, Int.reduceLT, Int.reduceLE, Int.reduceEq, Int.reduceAdd, Int.reduceSub, Int.reduceNeg, Int.reduceToNat, Nat.reduceAdd, Nat.reduceMul, Nat.reduceSub, reduceCtorEq, RC, Int.cast_ofNat_Int, hn, g0, g1, g3, g9, g10, g11, g12]
      refine hS.eSlice [I (pk es 0 d m' a)] tP29 tF29 rfl rfl (by simp [Value.cells]) rfl rfl (by decide) (by decide) fun x H5 hS => ?_
      repeat first | (with_reducible first | refine Wp.seq ?_ | refine Wp.reg ?_ | refine Wp.block ?_ | refine Wp.skip ?_ | refine Wp.ret ?_ | refine Wp.exit ?_ | refine Wp.label ?_ | refine Wp.condG ?_) | simp (disch := omega) only [↓RP, RQ, TS, TR, ↓reduceIte, Nat.reduceEqDiff, Nat.reduceLT, Nat.reduceLeDiff, Int.reduceLT, Int.reduceLE, Int.reduceEq, Int.reduceAdd, Int.reduceSub, Int.reduceNeg, Int.reduceToNat, Nat.reduceAdd, Nat.reduceMul, Nat.reduceSub, reduceCtorEq, RC, Int.cast_ofNat_Int, hn, g0, g1, g3, g9, g10, g11, g12]
      refine hS.eAppend 0 rfl (hS.rd 1 rfl) tP29 (by simp only [nts, List.length_map, List.length_cons, List.length_nil]; omega) fun o' H6 hS => ?_
      simp only [List.nil_append, List.cons_append, List.append_nil, List.set_cons_zero, List.set_cons_succ, setMany_cons, setMany_nil, Nat.zero_add, Nat.mul_one, Nat.add_zero] at hS
      have hE1 : Sl2 H6 ev _ _ es := hS.base hE
      repeat first | (with_reducible first | refine Wp.seq ?_ | refine Wp.reg ?_ | refine Wp.block ?_ | refine Wp.skip ?_ | refine Wp.ret ?_ | refine Wp.exit ?_ | refine Wp.label ?_ | refine Wp.condG ?_) | simp (disch := omega) only [↓RP, RQ, TS, TR, ↓reduceIte, Nat.reduceEqDiff, Nat.reduceLT, Nat.reduceLeDiff, Int.reduceLT, Int.reduceLE, Int.reduceEq, Int.reduceAdd, Int.reduceSub, Int.reduceNeg, Int.reduceToNat, Nat.reduceAdd, Nat.reduceMul, Nat.reduceSub, reduceCtorEq, RC, Int.cast_ofNat_Int, hn, g0, g1, g3, g9, g10, g11, g12, hE1.idx, hE1.fld, hE1.ld1 (0, 0), wrap_fit]
      refine ⟨m', by omega, _, o', p ++ [pk es 0 d m' a], rfl, rfl, ?_, hk2, hmt.2, ?_, ?_, hS.sub ?_⟩
      · exact congrArg (Value.int .i64) (by omega)
      · rw [← hp, List.append_assoc]
        rfl
      · rw [List.length_append]
        simp only [List.length_cons, List.length_nil]
        omega
      · simp [nts]
  · repeat first | (with_reducible first | refine Wp.seq ?_ | refine Wp.reg ?_ | refine Wp.block ?_ | refine Wp.skip ?_ | refine Wp.ret ?_ | refine Wp.exit ?_ | refine Wp.label ?_ | refine Wp.condG ?_) | simp (disch := omega) only [↓RP, RQ, TS, TR, ↓reduceIte, Nat.reduceEqDiff, Nat.reduceLT, Nat.reduceLeDiff, Int.reduceLT, Int.reduceLE, Int.reduceEq, Int.reduceAdd, Int.reduceSub, Int.reduceNeg, Int.reduceToNat, Nat.reduceAdd, Nat.reduceMul, Nat.reduceSub, reduceCtorEq, RC, Int.cast_ofNat_Int, hn, g0, g1, g3, g9, g10, g11]
    have hm : m = 0 := by omega
    subst hm
    rw [← hp]
    simp only [pF, List.append_nil]
    exact hS
end Go.Ds
/-
  Contracts: the reference's Steps.
-/
namespace Go.Ds
open Go.Proofs Go.Plain
variable {H : Heap}

theorem steps_ok (N : Nat) (v : Value) (es : List (Nat × Nat)) (hv : Eg H v es) (hN : N ≤ 200) (he : es.length ≤ 1000) (hval : ∀ e ∈ es, e.1 < N ∧ e.2 < N) :
    Fn Try.prog 15 [I N, v] H fun r H' => ∃ (ws : Nat → Value) (rows : Nat → List Nat), (∀ i, i < N → IsS es N i (rows i)) ∧ St Try.prog H H' (⟨r, 1, (List.range N).map ws⟩ :: inner N ws rows) := by
  refine Fn.of_wp (fn := Try.f15) rfl rfl (by kernel_rfl) fun l hl => ?_
  have hn : l.length = 88 := by rw [hl]; rfl
  have g0 : get l 0 = I N := by rw [hl]; rfl
  have g1 : get l 1 = v := by rw [hl]; rfl
  clear hl
  repeat first | (with_reducible first | refine Wp.seq ?_ | refine Wp.reg ?_ | refine Wp.block ?_ | refine Wp.skip ?_ | refine Wp.ret ?_ | refine Wp.exit ?_ | refine Wp.label ?_ | refine Wp.condG ?_) | simp (disch := omega) only [↓RP, RQ, TS, TR, ↓reduceIte, Nat.reduceEqDiff, Nat.reduceLT, Nat.reduceLeDiff, Int.reduceLT, Int.reduceLE, Int.reduceEq, Int.reduceAdd, Int.reduceSub, Int.reduceNeg, Int.reduceToNat, Nat.reduceAdd, Nat.reduceMul, Nat.reduceSub, reduceCtorEq, RC, Int.cast_ofNat_Int, hn, g0, g1]
  refine Wp.loopN (fun n l H' => l.length = 88 ∧ get l 0 = I N ∧ get l 1 = v ∧ ∃ (i : Nat) (o : Value) (ws : Nat → Value) (rows : Nat → List Nat), n + i = N ∧ get l 6 = I i ∧ get l 5 = o ∧
    (∀ j, j < i → IsS es N j (rows j)) ∧ St Try.prog H H' (⟨o, 1, (List.range i).map ws⟩ :: inner i ws rows)) N ?_ ?_
  · repeat first | (with_reducible first | refine Wp.seq ?_ | refine Wp.reg ?_ | refine Wp.block ?_ | refine Wp.skip ?_ | refine Wp.ret ?_ | refine Wp.exit ?_ | refine Wp.label ?_ | refine Wp.condG ?_) | simp (disch := omega) only [↓RP, RQ, TS, TR, ↓reduceIte, Nat.reduceEqDiff, Nat.reduceLT, Nat.reduceLeDiff, Int.reduceLT, Int.reduceLE, Int.reduceEq, Int.reduceAdd, Int.reduceSub, Int.reduceNeg, Int.reduceToNat, Nat.reduceAdd, Nat.reduceMul, Nat.reduceSub, reduceCtorEq, RC, Int.cast_ofNat_Int, hn, g0, g1]
    exact ⟨0, _, fun _ => undef, fun _ => [], rfl, rfl, rfl, fun j hj => absurd hj (Nat.not_lt_zero _), by simpa [inner] using (St.refl Try.prog H).nil 0⟩
  clear hn g0 g1
  rintro n l H' ⟨hn, g0, g1, i, o, ws, rows, hi, g6, g5, hrows, hS⟩
  repeat first | (with_reducible first | refine Wp.seq ?_ | refine Wp.reg ?_ | refine Wp.block ?_ | refine Wp.skip ?_ | refine Wp.ret ?_ | refine Wp.exit ?_ | refine Wp.label ?_ | refine Wp.condG ?_) | simp (disch := omega) only [↓RP, RQ, TS, TR, ↓reduceIte, Nat.reduceEqDiff, Nat.reduceLT, Nat.reduceLeDiff, Int.reduceLT, Int.reduceLE, Int.reduceEq, Int.reduceAdd, Int.reduceSub, Int.reduceNeg, Int.reduceToNat, Nat.reduceAdd, Nat.reduceMul, Nat.reduceSub, reduceCtorEq, RC, Int.cast_ofNat_Int, hn, g0, g1, g5, g6]
  refine condW_split (fun h => ?_) (fun h => ?_)
  · have hiN : i < N := by omega
    repeat first | (with_reducible first | refine Wp.seq ?_ | refine Wp.reg ?_ | refine Wp.block ?_ | refine Wp.skip ?_ | refine Wp.ret ?_ | refine Wp.exit ?_ | refine Wp.label ?_ | refine Wp.condG ?_) | simp (disch := omega) only [↓RP, RQ, TS, TR, ↓reduceIte, Nat.reduceEqDiff, Nat.reduceLT, Nat.reduceLeDiff, Int.reduceLT, Int.reduceLE, Int.reduceEq, Int.reduceAdd, Int.reduceSub, Int.reduceNeg, Int.reduceToNat, Nat.reduceAdd, Nat.reduceMul, Nat.reduceSub, reduceCtorEq, RC, Int.cast_ofNat_Int, hn, g0, g1, g5, g6]
    refine hS.eMake1 N tM29 (by omega) fun w H2 hS => ?_
    have hS := hS.front
    repeat first | (with_reducible first | refine Wp.seq ?_ | refine Wp.reg ?_ | refine Wp.block ?_ | refine Wp.skip ?_ | refine Wp.ret ?_ | refine Wp.exit ?_ | refine Wp.label ?_ | refine Wp.condG ?_) | simp (disch := omega) only [↓RP, RQ, TS, TR, ↓reduceIte, Nat.reduceEqDiff, Nat.reduceLT, Nat.reduceLeDiff, Int.reduceLT, Int.reduceLE, Int.reduceEq, Int.reduceAdd, Int.reduceSub, Int.reduceNeg, Int.reduceToNat, Nat.reduceAdd, Nat.reduceMul, Nat.reduceSub, reduceCtorEq, RC, Int.cast_ofNat_Int, hn, g0, g1, g5, g6]
    refine Wp.loopN (fun n2 l H' => l.length = 88 ∧ get l 0 = I N ∧ get l 1 = v ∧ get l 5 = o ∧ get l 6 = I i ∧ get l 7 = w ∧ ∃ (b : Bool) (row : List Nat), get l 8 = .bool b ∧ n2 = 2 * wt N row + (if b = true then 1 else 0) ∧ RI es N i row ∧
      (b = false → ∀ e ∈ es, ¬ better i row e) ∧ St Try.prog H H' (⟨w, 1, nts row⟩ :: ⟨o, 1, (List.range i).map ws⟩ :: inner i ws rows)) (2 * wt N (List.replicate N 0) + 1) ?_ ?_
    · repeat first | (with_reducible first | refine Wp.seq ?_ | refine Wp.reg ?_ | refine Wp.block ?_ | refine Wp.skip ?_ | refine Wp.ret ?_ | refine Wp.exit ?_ | refine Wp.label ?_ | refine Wp.condG ?_) | simp (disch := omega) only [↓RP, RQ, TS, TR, ↓reduceIte, Nat.reduceEqDiff, Nat.reduceLT, Nat.reduceLeDiff, Int.reduceLT, Int.reduceLE, Int.reduceEq, Int.reduceAdd, Int.reduceSub, Int.reduceNeg, Int.reduceToNat, Nat.reduceAdd, Nat.reduceMul, Nat.reduceSub, reduceCtorEq, RC, Int.cast_ofNat_Int, hn, g0, g1, g5, g6]
      exact ⟨true, List.replicate N 0, rfl, rfl, .first es N i, (fun h => by cases h), by simpa [nts] using hS⟩
    clear hS hn g0 g1 g5 g6
    rintro n2 l H' ⟨hn, g0, g1, g5, g6, g7, b, row, g8, hn2, hR, hb, hS⟩
    repeat first | (with_reducible first | refine Wp.seq ?_ | refine Wp.reg ?_ | refine Wp.block ?_ | refine Wp.skip ?_ | refine Wp.ret ?_ | refine Wp.exit ?_ | refine Wp.label ?_ | refine Wp.condG ?_) | simp (disch := omega) only [↓RP, RQ, TS, TR, ↓reduceIte, Nat.reduceEqDiff, Nat.reduceLT, Nat.reduceLeDiff, Int.reduceLT, Int.reduceLE, Int.reduceEq, Int.reduceAdd, Int.reduceSub, Int.reduceNeg, Int.reduceToNat, Nat.reduceAdd, Nat.reduceMul, Nat.reduceSub, reduceCtorEq, RC, Int.cast_ofNat_Int, hn, g0, g1, g5, g6, g7, g8]
    refine condW_bool (fun hbt => ?_) (fun hbf => ?_)
    · subst hbt
      repeat first | (with_reducible first | refine Wp.seq ?_ | refine Wp.reg ?_ | refine Wp.block ?_ | refine Wp.skip ?_ | refine Wp.ret ?_ | refine Wp.exit ?_ | refine Wp.label ?_ | refine Wp.condG ?_) | simp (disch := omega) only [↓RP, RQ, TS, TR, ↓reduceIte, Nat.reduceEqDiff, Nat.reduceLT, Nat.reduceLeDiff, Int.reduceLT, Int.reduceLE, Int.reduceEq, Int.reduceAdd, Int.reduceSub, Int.reduceNeg, Int.reduceToNat, Nat.reduceAdd, Nat.reduceMul, Nat.reduceSub, reduceCtorEq, RC, Int.cast_ofNat_Int, hn, g0, g1, g5, g6, g7, g8]
      refine Wp.loopN (fun n3 l H' => l.length = 88 ∧ get l 0 = I N ∧ get l 1 = v ∧ get l 5 = o ∧ get l 6 = I i ∧ get l 7 = w ∧ ∃ (b : Bool) (row' : List Nat) (k : Nat), n3 + k = es.length ∧ get l 9 = I k ∧ get l 8 = .bool b ∧ RI es N i row' ∧
        (b = false → row' = row ∧ ∀ j, j < k → ¬ better i row (es.getD j (0, 0))) ∧ (b = true → wt N row' < wt N row) ∧ St Try.prog H H' (⟨w, 1, nts row'⟩ :: ⟨o, 1, (List.range i).map ws⟩ :: inner i ws rows)) es.length ?_ ?_
      · repeat first | (with_reducible first | refine Wp.seq ?_ | refine Wp.reg ?_ | refine Wp.block ?_ | refine Wp.skip ?_ | refine Wp.ret ?_ | refine Wp.exit ?_ | refine Wp.label ?_ | refine Wp.condG ?_) | simp (disch := omega) only [↓RP, RQ, TS, TR, ↓reduceIte, Nat.reduceEqDiff, Nat.reduceLT, Nat.reduceLeDiff, Int.reduceLT, Int.reduceLE, Int.reduceEq, Int.reduceAdd, Int.reduceSub, Int.reduceNeg, Int.reduceToNat, Nat.reduceAdd, Nat.reduceMul, Nat.reduceSub, reduceCtorEq, RC, Int.cast_ofNat_Int, hn, g0, g1, g5, g6, g7]
        exact ⟨false, row, 0, rfl, rfl, rfl, hR, fun _ => ⟨rfl, fun j hj => absurd hj (Nat.not_lt_zero _)⟩, (fun h => by cases h), hS⟩
      clear hS hn g0 g1 g5 g6 g7 g8
      rintro n3 l H' ⟨hn, g0, g1, g5, g6, g7, b, row', k, hk, g9, g8, hR', hbf, hbt, hS⟩
      have hv1 : Sl2 H' v _ _ es := hS.base hv
      have hw : Sl1 H' w (fun n : Nat => I n) row' := hS.rd 0 rfl
      repeat first | (with_reducible first | refine Wp.seq ?_ | refine Wp.reg ?_ | refine Wp.block ?_ | refine Wp.skip ?_ | refine Wp.ret ?_ | refine Wp.exit ?_ | refine Wp.label ?_ | refine Wp.condG ?_) | simp (disch := omega) only [↓RP, RQ, TS, TR, ↓reduceIte, Nat.reduceEqDiff, Nat.reduceLT, Nat.reduceLeDiff, Int.reduceLT, Int.reduceLE, Int.reduceEq, Int.reduceAdd, Int.reduceSub, Int.reduceNeg, Int.reduceToNat, Nat.reduceAdd, Nat.reduceMul, Nat.reduceSub, reduceCtorEq, RC, Int.cast_ofNat_Int, hn, g0, g1, g5, g6, g7, g8, g9, hv1.len]
      refine condW_split (fun h3 => ?_) (fun h3 => ?_)
      · have hm := hval _ (getD_mem (0, 0) (show k < es.length by omega))
        have hme := getD_mem (0, 0) (show k < es.length by omega)
        have hlen := hR'.len
        have hsm := hR'.small (es.getD k (0, 0)).1 hm.1
        have hnz := nz_le row'
        repeat first | (with_reducible first | refine Wp.seq ?_ | refine Wp.reg ?_ | refine Wp.block ?_ | refine Wp.skip ?_ | refine Wp.ret ?_ | refine Wp.exit ?_ | refine Wp.label ?_ | refine Wp.condG ?_) | simp (disch := omega) only [↓RP, RQ, TS, TR, ↓reduceIte, Nat.reduceEqDiff, Nat.reduceLT, Nat.reduceLeDiff, Int.reduceLT, Int.reduceLE, Int.reduceEq, Int.reduceAdd, Int.reduceSub, Int.reduceNeg, Int.reduceToNat, Nat.reduceAdd, Nat.reduceMul, Nat.reduceSub, reduceCtorEq, RC, Int.cast_ofNat_Int, hn, g0, g1, g5, g6, g7, g8, g9, hv1.idx, hv1.fld, hv1.ld0 (0, 0)]
        refine condW_cut (fun e l H2 => e = .normal ∧ H2 = H' ∧ l.length = 88 ∧ get l 0 = I N ∧ get l 1 = v ∧ get l 5 = o ∧ get l 6 = I i ∧ get l 7 = w ∧ get l 8 = .bool b ∧ get l 9 = I k ∧ get l 10 = I (offer i row' (es.getD k (0, 0)))) ?_ ?_
        · refine condW_split (fun h4 => ?_) (fun h4 => ?_)
          · have e : offer i row' (es.getD k (0, 0)) = 1 := by unfold offer; rw [if_pos (by omega)]
            repeat first | (with_reducible first | refine Wp.seq ?_ | refine Wp.reg ?_ | refine Wp.block ?_ | refine Wp.skip ?_ | refine Wp.ret ?_ | refine Wp.exit ?_ | refine Wp.label ?_ | refine Wp.condG ?_) | simp (disch := omega) only [↓RP, RQ, TS, TR, ↓reduceIte, Nat.reduceEqDiff, Nat.reduceLT, Nat.reduceLeDiff, Int.reduceLT, Int.reduceLE, Int.reduceEq, Int.reduceAdd, Int.reduceSub, Int.reduceNeg, Int.reduceToNat, Nat.reduceAdd, Nat.reduceMul, Nat.reduceSub, reduceCtorEq, RC, Int.cast_ofNat_Int, hn, g0, g1, g5, g6, g7, g8, g9, e]
            try rfl
          · repeat first | (with_reducible first | refine Wp.seq ?_ | refine Wp.reg ?_ | refine Wp.block ?_ | refine Wp.skip ?_ | refine Wp.ret ?_ | refine Wp.exit ?_ | refine Wp.label ?_ | refine Wp.condG ?_) | simp (disch := omega) only [↓RP, RQ, TS, TR, ↓reduceIte, Nat.reduceEqDiff, Nat.reduceLT, Nat.reduceLeDiff, Int.reduceLT, Int.reduceLE, Int.reduceEq, Int.reduceAdd, Int.reduceSub, Int.reduceNeg, Int.reduceToNat, Nat.reduceAdd, Nat.reduceMul, Nat.reduceSub, reduceCtorEq, RC, Int.cast_ofNat_Int, hn, g0, g1, g5, g6, g7, g8, g9, hv1.idx, hv1.fld, hv1.ld0 (0, 0), hw.idx, hw.ld 0]
            refine condW_split (fun h5 => ?_) (fun h5 => ?_)
            · have e : offer i row' (es.getD k (0, 0)) = row'.getD (es.getD k (0, 0)).1 0 + 1 := by unfold offer; rw [if_neg (by omega), if_pos (by omega)]
              repeat first | (with_reducible first | refine Wp.seq ?_ | refine Wp.reg ?_ | refine Wp.block ?_ | refine Wp.skip ?_ | refine Wp.ret ?_ | refine Wp.exit ?_ | refine Wp.label ?_ | refine Wp.condG ?_) | simp (disch := omega) only [↓RP, RQ, TS, TR, ↓reduceIte, Nat.reduceEqDiff, Nat.reduceLT, Nat.reduceLeDiff, Int.reduceLT, Int.reduceLE, Int.reduceEq, Int.reduceAdd, Int.reduceSub, Int.reduceNeg, Int.reduceToNat, Nat.reduceAdd, Nat.reduceMul, Nat.reduceSub, reduceCtorEq, RC, Int.cast_ofNat_Int, hn, g0, g1, g5, g6, g7, g8, g9, hv1.idx, hv1.fld, hv1.ld0 (0, 0), hw.idx, hw.ld 0, e, wrap_fit]
              try rfl
            · have e : offer i row' (es.getD k (0, 0)) = 0 := by unfold offer; rw [if_neg (by omega), if_neg (by omega)]
              repeat first | (with_reducible first | refine Wp.seq ?_ | refine Wp.reg ?_ | refine Wp.block ?_ | refine Wp.skip ?_ | refine Wp.ret ?_ | refine Wp.exit ?_ | refine Wp.label ?_ | refine Wp.condG ?_) | simp (disch := omega) only [↓RP, RQ, TS, TR, ↓reduceIte, Nat.reduceEqDiff, Nat.reduceLT, Nat.reduceLeDiff, Int.reduceLT, Int.reduceLE, Int.reduceEq, Int.reduceAdd, Int.reduceSub, Int.reduceNeg, Int.reduceToNat, Nat.reduceAdd, Nat.reduceMul, Nat.reduceSub, reduceCtorEq, RC, Int.cast_ofNat_Int, hn, g0, g1, g5, g6, g7, g8, g9, e]
              try rfl
        clear hn g0 g1 g5 g6 g7 g8 g9
        rintro e l H2 ⟨rfl, rfl, hn, g0, g1, g5, g6, g7, g8, g9, g10⟩
        repeat first | (with_reducible first | refine Wp.seq ?_ | refine Wp.reg ?_ | refine Wp.block ?_ | refine Wp.skip ?_ | refine Wp.ret ?_ | refine Wp.exit ?_ | refine Wp.label ?_ | refine Wp.condG ?_) | simp (disch := omega) only [↓RP, RQ, TS, TR, ↓reduceIte, Nat.reduceEqDiff, Nat.reduceLT, Nat.reduceLeDiff, Int.reduceLT, Int.reduceLE, Int.reduceEq, Int.reduceAdd, Int.reduceSub, Int.reduceNeg, Int.reduceToNat, Nat.reduceAdd, Nat.reduceMul, Nat.reduceSub, reduceCtorEq, RC, Int.cast_ofNat_Int, hn, g0, g1, g5, g6, g7, g8, g9, g10]
        refine letG_split (fun h6 => ?_) (fun h6 => ?_)
        · repeat first | (with_reducible first | refine Wp.seq ?_ | refine Wp.reg ?_ | refine Wp.block ?_ | refine Wp.skip ?_ | refine Wp.ret ?_ | refine Wp.exit ?_ | refine Wp.label ?_ | refine Wp.condG ?_) | simp (disch := omega) only [↓RP, RQ, TS, TR, ↓reduceIte, Nat.reduceEqDiff, Nat.reduceLT, Nat.reduceLeDiff, Int.reduceLT, Int.reduceLE, Int.reduceEq, Int.reduceAdd, Int.reduceSub, Int.reduceNeg, Int.reduceToNat, Nat.reduceAdd, Nat.reduceMul, Nat.reduceSub, reduceCtorEq, RC, Int.cast_ofNat_Int, hn, g0, g1, g5, g6, g7, g8, g9, g10, h6, hv1.idx, hv1.fld, hv1.ld0 (0, 0), hv1.ld1 (0, 0), hw.idx, hw.ld 0]
          refine letG_split' (fun h7 => ?_) (fun h7 => ?_)
          · have hb6 : better i row' (es.getD k (0, 0)) := ⟨by omega, .inl (by omega)⟩
            have hlt := hm.2
            have hst := hR'.step _ hme hm.1 hm.2 hb6
            repeat first | (with_reducible first | refine Wp.seq ?_ | refine Wp.reg ?_ | refine Wp.block ?_ | refine Wp.skip ?_ | refine Wp.ret ?_ | refine Wp.exit ?_ | refine Wp.label ?_ | refine Wp.condG ?_) | simp (disch := omega) only [↓RP, RQ, TS, TR, ↓reduceIte, Nat.reduceEqDiff, Nat.reduceLT, Nat.reduceLeDiff, Int.reduceLT, Int.reduceLE, Int.reduceEq, Int.reduceAdd, Int.reduceSub, Int.reduceNeg, Int.reduceToNat, Nat.reduceAdd, Nat.reduceMul, Nat.reduceSub, reduceCtorEq, RC, Int.cast_ofNat_Int, hn, g0, g1, g5, g6, g7, g8, g9, g10, h6, h7, hv1.idx, hv1.fld, hv1.ld0 (0, 0), hv1.ld1 (0, 0), hw.idx, hw.ld 0]
            refine hS.eStoreE 0 rfl [_] rfl rfl tS3 (by simp) (by simp only [nts, List.length_map, List.length_cons, List.length_nil]; omega) fun H5 hS => ?_
            simp only [List.nil_append, List.cons_append, List.append_nil, List.set_cons_zero, List.set_cons_succ, setMany_cons, setMany_nil, Nat.zero_add, Nat.mul_one, Nat.add_zero] at hS
            rw [show (nts row').set (es.getD k (0, 0)).2 (I (offer i row' (es.getD k (0, 0)))) = nts (row'.set (es.getD k (0, 0)).2 (offer i row' (es.getD k (0, 0)))) from (List.map_set ..).symm] at hS
            repeat first | (with_reducible first | refine Wp.seq ?_ | refine Wp.reg ?_ | refine Wp.block ?_ | refine Wp.skip ?_ | refine Wp.ret ?_ | refine Wp.exit ?_ | refine Wp.label ?_ | refine Wp.condG ?_) | simp (disch := omega) only [↓RP, RQ, TS, TR, ↓reduceIte, Nat.reduceEqDiff, Nat.reduceLT, Nat.reduceLeDiff, Int.reduceLT, Int.reduceLE, Int.reduceEq, Int.reduceAdd, Int.reduceSub, Int.reduceNeg, Int.reduceToNat, Nat.reduceAdd, Nat.reduceMul, Nat.reduceSub, reduceCtorEq, RC, Int.cast_ofNat_Int, hn, g0, g1, g5, g6, g7, g8, g9, g10, wrap_fit]
            refine ⟨n3 - 1, by omega, true, _, k + 1, by omega, rfl, rfl, hst.1, (fun h => by cases h), (fun _ => ?_), hS⟩
            cases b with
            | true => exact Nat.lt_trans hst.2 (hbt rfl)
            | false => rw [(hbf rfl).1] at hst ⊢; exact hst.2
          · repeat first | (with_reducible first | refine Wp.seq ?_ | refine Wp.reg ?_ | refine Wp.block ?_ | refine Wp.skip ?_ | refine Wp.ret ?_ | refine Wp.exit ?_ | refine Wp.label ?_ | refine Wp.condG ?_) | simp (disch := omega) only [↓RP, RQ, TS, TR, ↓reduceIte, Nat.reduceEqDiff, Nat.reduceLT, Nat.reduceLeDiff, Int.reduceLT, Int.reduceLE, Int.reduceEq, Int.reduceAdd, Int.reduceSub, Int.reduceNeg, Int.reduceToNat, Nat.reduceAdd, Nat.reduceMul, Nat.reduceSub, reduceCtorEq, RC, Int.cast_ofNat_Int, hn, g0, g1, g5, g6, g7, g8, g9, g10, h6, h7, hv1.idx, hv1.fld, hv1.ld0 (0, 0), hv1.ld1 (0, 0), hw.idx, hw.ld 0]
            refine condW_split (fun h8 => ?_) (fun h8 => ?_)
            · have hb6 : better i row' (es.getD k (0, 0)) := ⟨by omega, .inr (by omega)⟩
              have hlt := hm.2
              have hst := hR'.step _ hme hm.1 hm.2 hb6
              repeat first | (with_reducible first | refine Wp.seq ?_ | refine Wp.reg ?_ | refine Wp.block ?_ | refine Wp.skip ?_ | refine Wp.ret ?_ | refine Wp.exit ?_ | refine Wp.label ?_ | refine Wp.condG ?_) | simp (disch := omega) only [↓RP, RQ, TS, TR, ↓reduceIte, Nat.reduceEqDiff, Nat.reduceLT, Nat.reduceLeDiff, Int.reduceLT, Int.reduceLE, Int.reduceEq, Int.reduceAdd, Int.reduceSub, Int.reduceNeg, Int.reduceToNat, Nat.reduceAdd, Nat.reduceMul, Nat.reduceSub, reduceCtorEq, RC, Int.cast_ofNat_Int, hn, g0, g1, g5, g6, g7, g8, g9, g10, h6, h7, hv1.idx, hv1.fld, hv1.ld0 (0, 0), hv1.ld1 (0, 0), hw.idx, hw.ld 0]
              refine hS.eStoreE 0 rfl [_] rfl rfl tS3 (by simp) (by simp only [nts, List.length_map, List.length_cons, List.length_nil]; omega) fun H5 hS => ?_
              simp only [List.nil_append, List.cons_append, List.append_nil, List.set_cons_zero, List.set_cons_succ, setMany_cons, setMany_nil, Nat.zero_add, Nat.mul_one, Nat.add_zero] at hS
              rw [show (nts row').set (es.getD k (0, 0)).2 (I (offer i row' (es.getD k (0, 0)))) = nts (row'.set (es.getD k (0, 0)).2 (offer i row' (es.getD k (0, 0)))) from (List.map_set ..).symm] at hS
              repeat first | (with_reducible first | refine Wp.seq ?_ | refine Wp.reg ?_ | refine Wp.block ?_ | refine Wp.skip ?_ | refine Wp.ret ?_ | refine Wp.exit ?_ | refine Wp.label ?_ | refine Wp.condG ?_) | simp (disch := omega) only [↓RP, RQ, TS, TR, ↓reduceIte, Nat.reduceEqDiff, Nat.reduceLT, Nat.reduceLeDiff, Int.reduceLT, Int.reduceLE, Int.reduceEq, Int.reduceAdd, Int.reduceSub, Int.reduceNeg, Int.reduceToNat, Nat.reduceAdd, Nat.reduceMul, Nat.reduceSub, reduceCtorEq, RC, Int.cast_ofNat_Int, hn, g0, g1, g5, g6, g7, g8, g9, g10, wrap_fit]
              refine ⟨n3 - 1, by omega, true, _, k + 1, by omega, rfl, rfl, hst.1, (fun h => by cases h), (fun _ => ?_), hS⟩
              cases b with
              | true => exact Nat.lt_trans hst.2 (hbt rfl)
              | false => rw [(hbf rfl).1] at hst ⊢; exact hst.2
            · have hnb : ¬ better i row' (es.getD k (0, 0)) := fun hh => by
                rcases hh.2 with h9 | h9 <;> omega
              skip
              repeat first | (with_reducible first | refine Wp.seq ?_ | refine Wp.reg ?_ | refine Wp.block ?_ | refine Wp.skip ?_ | refine Wp.ret ?_ | refine Wp.exit ?_ | refine Wp.label ?_ | refine Wp.condG ?_) | simp (disch := omega) only [↓RP, RQ, TS, TR, ↓reduceIte, Nat.reduceEqDiff, Nat.reduceLT, Nat.reduceLeDiff, Int.reduceLT, Int.reduceLE, Int.reduceEq, Int.reduceAdd, Int.reduceSub, Int.reduceNeg, Int.reduceToNat, Nat.reduceAdd, Nat.reduceMul, Nat.reduceSub, reduceCtorEq, RC, Int.cast_ofNat_Int, hn, g0, g1, g5, g6, g7, g8, g9, g10, h6, wrap_fit]
              refine ⟨n3 - 1, by omega, b, row', k + 1, by omega, rfl, rfl, hR', (fun h => ?_), hbt, hS⟩
              obtain ⟨e1, e2⟩ := hbf h
              subst e1
              refine ⟨rfl, fun j hj => ?_⟩
              by_cases e : j = k
              · subst e; exact hnb
              · exact e2 j (by omega)
        · have hnb : ¬ better i row' (es.getD k (0, 0)) := fun hh => by have := hh.1; omega
          skip
          repeat first | (with_reducible first | refine Wp.seq ?_ | refine Wp.reg ?_ | refine Wp.block ?_ | refine Wp.skip ?_ | refine Wp.ret ?_ | refine Wp.exit ?_ | refine Wp.label ?_ | refine Wp.condG ?_) | simp (disch := omega) only [↓RP, RQ, TS, TR, ↓reduceIte, Nat.reduceEqDiff, Nat.reduceLT, Nat.reduceLeDiff, Int.reduceLT, Int.reduceLE, Int.reduceEq, Int.reduceAdd, Int.reduceSub, Int.reduceNeg, Int.reduceToNat, Nat.reduceAdd, Nat.reduceMul, Nat.reduceSub, reduceCtorEq, RC, Int.cast_ofNat_Int, hn, g0, g1, g5, g6, g7, g8, g9, g10, h6, wrap_fit]
          refine ⟨n3 - 1, by omega, b, row', k + 1, by omega, rfl, rfl, hR', (fun h => ?_), hbt, hS⟩
          obtain ⟨e1, e2⟩ := hbf h
          subst e1
          refine ⟨rfl, fun j hj => ?_⟩
          by_cases e : j = k
          · subst e; exact hnb
          · exact e2 j (by omega)
      · repeat first | (with_reducible first | refine Wp.seq ?_ | refine Wp.reg ?_ | refine Wp.block ?_ | refine Wp.skip ?_ | refine Wp.ret ?_ | refine Wp.exit ?_ | refine Wp.label ?_ | refine Wp.condG ?_) | simp (disch := omega) only [↓RP, RQ, TS, TR, ↓reduceIte, Nat.reduceEqDiff, Nat.reduceLT, Nat.reduceLeDiff, Int.reduceLT, Int.reduceLE, Int.reduceEq, Int.reduceAdd, Int.reduceSub, Int.reduceNeg, Int.reduceToNat, Nat.reduceAdd, Nat.reduceMul, Nat.reduceSub, reduceCtorEq, RC, Int.cast_ofNat_Int, hn, g0, g1, g5, g6, g7, g8, g9]
        cases b with
        | true =>
          have := hbt rfl
          refine ⟨_, ?_, true, row', rfl, rfl, hR', (fun h => by cases h), hS⟩
          rw [hn2]
          simp
          omega
        | false =>
          obtain ⟨e1, e2⟩ := hbf rfl
          subst e1
          refine ⟨_, ?_, false, row', rfl, rfl, hR', (fun _ e he => ?_), hS⟩
          · rw [hn2]; simp
          · obtain ⟨j, hj, rfl⟩ := List.getElem_of_mem he
            have := e2 j (by omega)
            rwa [List.getD_eq_getElem?_getD, List.getElem?_eq_getElem hj] at this
    · subst hbf
      have hw := (hS.rd 0 rfl).cells
      repeat first | (with_reducible first | refine Wp.seq ?_ | refine Wp.reg ?_ | refine Wp.block ?_ | refine Wp.skip ?_ | refine Wp.ret ?_ | refine Wp.exit ?_ | refine Wp.label ?_ | refine Wp.condG ?_) | simp (disch := omega) only [↓RP, RQ, TS, TR, ↓reduceIte, Nat.reduceEqDiff, Nat.reduceLT, Nat.reduceLeDiff, Int.reduceLT, Int.reduceLE, Int.reduceEq, Int.reduceAdd, Int.reduceSub, Int.reduceNeg, Int.reduceToNat, Nat.reduceAdd, Nat.reduceMul, Nat.reduceSub, reduceCtorEq, RC, Int.cast_ofNat_Int, hn, g0, g1, g5, g6, g7, g8]
      refine hS.eSlice [w] tP33 tF33 rfl rfl (by simp [hw.1]) (by simp [hw.1]) (by simp [hw.2.1]) (by decide) (by decide) fun x H2 hS => ?_
      have hS := hS.front
      repeat first | (with_reducible first | refine Wp.seq ?_ | refine Wp.reg ?_ | refine Wp.block ?_ | refine Wp.skip ?_ | refine Wp.ret ?_ | refine Wp.exit ?_ | refine Wp.label ?_ | refine Wp.condG ?_) | simp (disch := omega) only [↓RP, RQ, TS, TR, ↓reduceIte, Nat.reduceEqDiff, Nat.reduceLT, Nat.reduceLeDiff, Int.reduceLT, Int.reduceLE, Int.reduceEq, Int.reduceAdd, Int.reduceSub, Int.reduceNeg, Int.reduceToNat, Nat.reduceAdd, Nat.reduceMul, Nat.reduceSub, reduceCtorEq, RC, Int.cast_ofNat_Int, hn, g0, g1, g5, g6, g7, g8]
      refine hS.eAppend 2 rfl (hS.rd 0 rfl) tP33 (by simp only [List.length_map, List.length_range, List.length_cons, List.length_nil]; omega) fun o' H3 hS => ?_
      simp only [List.nil_append, List.cons_append, List.append_nil, List.set_cons_zero, List.set_cons_succ, setMany_cons, setMany_nil, Nat.zero_add, Nat.mul_one, Nat.add_zero] at hS
      repeat first | (with_reducible first | refine Wp.seq ?_ | refine Wp.reg ?_ | refine Wp.block ?_ | refine Wp.skip ?_ | refine Wp.ret ?_ | refine Wp.exit ?_ | refine Wp.label ?_ | refine Wp.condG ?_) | simp (disch := omega) only [↓RP, RQ, TS, TR, ↓reduceIte, Nat.reduceEqDiff, Nat.reduceLT, Nat.reduceLeDiff, Int.reduceLT, Int.reduceLE, Int.reduceEq, Int.reduceAdd, Int.reduceSub, Int.reduceNeg, Int.reduceToNat, Nat.reduceAdd, Nat.reduceMul, Nat.reduceSub, reduceCtorEq, RC, Int.cast_ofNat_Int, hn, g0, g1, g5, g6, g7, g8, wrap_fit]
      refine ⟨n - 1, by omega, i + 1, o', upd ws i w, upd rows i row, by omega, rfl, rfl, ?_, ?_⟩
      · intro j hj
        unfold upd
        split
        · rename_i e; rw [e]; exact hR.last hiN hval (hb rfl)
        · exact hrows j (by omega)
      · have hS := hS.tail
        have e1 : (List.range (i + 1)).map (upd ws i w) = (List.range i).map ws ++ [w] := by
          rw [List.range_succ, List.map_append]
          congr 1
          · exact List.map_congr_left fun j hj => by
              have := List.mem_range.1 hj
              unfold upd; rw [if_neg (by omega)]
          · simp [upd]
        have e2 : inner (i + 1) (upd ws i w) (upd rows i row) = inner i ws rows ++ [⟨w, 1, nts row⟩] := by
          unfold inner
          rw [List.range_succ, List.map_append]
          congr 1
          · exact List.map_congr_left fun j hj => by
              have := List.mem_range.1 hj
              unfold upd; rw [if_neg (by omega), if_neg (by omega)]
          · simp [upd]
        rw [e1, e2]
        exact hS.perm (by
          refine List.Perm.trans (List.Perm.swap _ _ _) (List.Perm.cons _ ?_)
          exact (List.perm_append_singleton _ _).symm)
  · repeat first | (with_reducible first | refine Wp.seq ?_ | refine Wp.reg ?_ | refine Wp.block ?_ | refine Wp.skip ?_ | refine Wp.ret ?_ | refine Wp.exit ?_ | refine Wp.label ?_ | refine Wp.condG ?_) | simp (disch := omega) only [↓RP, RQ, TS, TR, ↓reduceIte, Nat.reduceEqDiff, Nat.reduceLT, Nat.reduceLeDiff, Int.reduceLT, Int.reduceLE, Int.reduceEq, Int.reduceAdd, Int.reduceSub, Int.reduceNeg, Int.reduceToNat, Nat.reduceAdd, Nat.reduceMul, Nat.reduceSub, reduceCtorEq, RC, Int.cast_ofNat_Int, hn, g0, g1, g5, g6]
    have e : i = N := by omega
    subst e
    exact ⟨ws, rows, hrows, hS⟩
end Go.Ds
/-
  The worked example of the layer: a closed run, by the kernel.
-/
namespace Go.Ds
open Go.Proofs

noncomputable def knownRun : Bool := match callF Try.prog (exD Try.prog 3000) 12 [] .nil with
  | some (.bool true, _) => true
  | _ => false
theorem knownRuns : knownRun = true := by kernel_rfl

theorem known_ok (H : Heap) : Fn Try.prog 12 [] H fun r H' => r = .bool true ∧ H' = H := by
  have h := knownRuns
  unfold knownRun at h
  split at h
  · rename_i H1 hr
    exact ⟨⟨Try.f12, rfl, rfl, by kernel_rfl⟩, _, H, CallOk.closed (by rfl) (CallOk.of_run hmix hr) H, rfl, rfl⟩
  · cases h
end Go.Ds
/-
  Plain: what the law on Reach and Distance compares.
-/
namespace Go.Plain

theorem IsD.eq {es : List (Nat × Nat)} {N s : Nat} {d d' : List Int} (h : IsD es N s d) (h' : IsD es N s d') : d = d' := by
  apply List.ext_getElem (by rw [h.len, h'.len])
  intro k hk hk'
  have hkN : k < N := by rw [← h.len]; exact hk
  have e1 : d[k] = d.getD k 0 := by simp [List.getD_eq_getElem?_getD, hk]
  have e2 : d'[k] = d'.getD k 0 := by simp [List.getD_eq_getElem?_getD, hk']
  rw [e1, e2]
  by_cases h1 : d.getD k 0 < 0
  · have a1 := h.neg k hkN h1
    by_cases h2 : d'.getD k 0 < 0
    · rw [a1.1, (h'.neg k hkN h2).1]
    · exact (a1.2 _ (h'.pos k hkN (by omega)).1).elim
  · have a1 := h.pos k hkN (by omega)
    by_cases h2 : d'.getD k 0 < 0
    · exact ((h'.neg k hkN h2).2 _ a1.1).elim
    · have a2 := h'.pos k hkN (by omega)
      have b1 := a1.2 _ a2.1
      have b2 := a2.2 _ a1.1
      omega

theorem want_eq {es : List (Nat × Nat)} {N s : Nat} {d : List Int} {row : List Nat} (h : IsD es N s d) (hr : IsS es N s row) (i : Nat) (hi : i < N) :
    d.getD i 0 = if i = s then 0 else if row.getD i 0 = 0 then -1 else (row.getD i 0 : Int) := by
  split
  · rename_i e
    by_cases h1 : d.getD i 0 < 0
    · exact ((h.neg i hi h1).2 0 e.symm).elim
    · have := (h.pos i hi (by omega)).2 0 e.symm
      omega
  · rename_i e
    split
    · rename_i h0
      by_cases h1 : d.getD i 0 < 0
      · exact (h.neg i hi h1).1
      · have a := (h.pos i hi (by omega)).1
        cases hm : (d.getD i 0).toNat with
        | zero => rw [hm] at a; exact (e a.symm).elim
        | succ m => rw [hm] at a; exact (hr.zero i hi h0 m a).elim
    · rename_i h0
      have a := hr.pos i hi (by omega)
      by_cases h1 : d.getD i 0 < 0
      · exact ((h.neg i hi h1).2 _ a.1).elim
      · have b := h.pos i hi (by omega)
        have c := b.2 _ a.1
        cases hm : (d.getD i 0).toNat with
        | zero => rw [hm] at b; exact (e b.1.symm).elim
        | succ m =>
          rw [hm] at b
          have := a.2 m b.1
          omega

/-- The chosen numbers below a bound. -/
theorem filter_at (p : Nat → Bool) (N i : Nat) (hi : i < N) (hp : p i = true) : ((List.range i).filter p).length < ((List.range N).filter p).length ∧ ((List.range N).filter p).getD ((List.range i).filter p).length 0 = i := by
  have e : List.range N = List.range i ++ i :: (List.range' (i + 1) (N - (i + 1))) := by
    have : i :: (List.range' (i + 1) (N - (i + 1))) = List.range' i (N - i) := by
      rw [← List.range'_succ]
      congr 1
      omega
    have h2 := List.range'_append_1 (s := 0) (m := i) (n := N - i)
    rw [Nat.zero_add, show i + (N - i) = N from by omega] at h2
    rw [this, List.range_eq_range', List.range_eq_range', h2]
  rw [e, List.filter_append, List.filter_cons, hp]
  simp [List.getD_eq_getElem?_getD]
end Go.Plain
