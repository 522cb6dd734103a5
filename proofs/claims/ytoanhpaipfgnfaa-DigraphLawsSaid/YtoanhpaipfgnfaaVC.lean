/-
  Contracts: distances.
-/
import Derived.Test.YtoanhpaipfgnfaaVB
import Derived.Below
import Derived.Shelf.SlSortCmp.NoneTotal
import Derived.Ground.SlsfProg
set_option linter.unusedVariables false
set_option linter.unusedSimpArgs false
namespace Go.Ds
open Go.Proofs Go.Plain
variable {H : Heap}

theorem St.perm {P : Program} {H0 : Base} {os os' : List Ob} (hS : St P H0 H os) (h : os.Perm os') : St P H0 H os' where
  len := hS.len
  old := hS.old
  own o ho := hS.own o (h.symm.subset ho)
  new o ho := hS.new o (h.symm.subset ho)
  sep := (h.pairwise_iff (fun {x y} hxy B h1 h2 => hxy B h2 h1)).1 hS.sep

theorem St.front {P : Program} {H0 : Base} {os : List Ob} {o : Ob} (hS : St P H0 H (os ++ [o])) : St P H0 H (o :: os) := hS.perm (List.perm_append_singleton o os)

theorem St.tail {P : Program} {H0 : Base} {os : List Ob} {o : Ob} (hS : St P H0 H (o :: os)) : St P H0 H os := hS.sub (List.sublist_cons_self o os)

def upd {α : Type} (f : Nat → α) (j : Nat) (x : α) : Nat → α := fun n => if n = j then x else f n

theorem map_upd {α : Type} (f : Nat → α) (j : Nat) (x : α) (N : Nat) : ((List.range N).map f).set j x = (List.range N).map (upd f j x) := by
  apply List.ext_getElem
  · simp
  · intro i h1 h2
    rw [List.getElem_set]
    simp only [List.getElem_map, List.getElem_range, upd]
    by_cases e : j = i
    · simp [e]
    · rw [if_neg e, if_neg (fun h => e h.symm)]

abbrev nts (l : List Nat) : List Value := l.map fun n : Nat => I n
/-- Rows of ours, one for each number. -/
def inner (N : Nat) (ws : Nat → Value) (nx : Nat → List Nat) : List Ob := (List.range N).map fun n => ⟨ws n, 1, nts (nx n)⟩
theorem inner_get (N : Nat) (ws : Nat → Value) (nx : Nat → List Nat) (j : Nat) (hj : j < N) : (inner N ws nx)[j]? = some ⟨ws j, 0 + 1, nts (nx j)⟩ := by simp [inner, hj]
theorem inner_set (N : Nat) (ws : Nat → Value) (nx : Nat → List Nat) (j : Nat) (w : Value) (l : List Nat) : (inner N ws nx).set j ⟨w, 1, nts l⟩ = inner N (upd ws j w) (upd nx j l) := by
  unfold inner
  rw [map_upd]
  congr 1
  funext n
  simp only [upd]
  split <;> rfl

theorem getD_range (N j : Nat) (h : j < N) : (List.range N).getD j 0 = j := by simp [List.getD_eq_getElem?_getD, h]

theorem St.nils {P : Program} {H0 : Base} (f : Nat → Value) (g : Nat → List Nat) (hf : ∀ n, f n = .slice none 0 0) (hg : ∀ n, g n = []) {os : List Ob} (hS : St P H0 H os) : ∀ N, St P H0 H (os ++ inner N f g) := by
  intro N
  induction N with
  | zero => simpa [inner] using hS
  | succ N ih =>
    have := ih.nil 0
    unfold inner at this ⊢
    rw [List.range_succ, List.map_append, ← List.append_assoc]
    simpa [hf, hg] using this

/-- The targets of the edges of a part of a list that leave a node. -/
def nxs (es : List (Nat × Nat)) (first i n : Nat) : List Nat := (((es.take i).drop first).filter fun e => e.1 == n).map (·.2)

theorem nxs_succ (es : List (Nat × Nat)) (first i : Nat) (hi : i < es.length) (hf : first ≤ i) : nxs es first (i + 1) = upd (nxs es first i) (es.getD i (0, 0)).1 (nxs es first i (es.getD i (0, 0)).1 ++ [(es.getD i (0, 0)).2]) := by
  funext n
  have e : (es.take (i + 1)).drop first = (es.take i).drop first ++ [es.getD i (0, 0)] := by
    rw [take_succ_getD es i (0, 0) hi, List.drop_append_of_le_length (by simp; omega)]
  unfold nxs upd
  rw [e, List.filter_append, List.map_append]
  by_cases h : n = (es.getD i (0, 0)).1
  · subst h
    simp
  · have h2 : ((es.getD i (0, 0)).1 == n) = false := by simp; exact fun e => h e.symm
    rw [if_neg h]
    simp only [List.filter_cons, h2]
    simp

theorem distances_ok (N : Nat) (v : Value) (es : List (Nat × Nat)) (hv : Eg H v es) (hN : N ≤ 200) (he : es.length ≤ 1000) (hval : ∀ e ∈ es, e.1 < N ∧ e.2 < N) (s first : Nat) (hs : s < N) (hf : first ≤ es.length) :
    Fn Try.prog 42 [.agg #[I N, v], I s, I first] H fun r H' => ∃ d, IsD (es.drop first) N s d ∧ (∀ k, k < N → d.getD k 0 ≤ N) ∧ St Try.prog H H' [⟨r, 1, d.map (.int .i64)⟩] := by
  refine Fn.of_wp (fn := Try.f42) rfl rfl (by kernel_rfl) fun l hl => ?_
  have hn : l.length = 89 := by rw [hl]; rfl
  have g0 : get l 0 = .agg #[I N, v] := by rw [hl]; rfl
  have g1 : get l 1 = I s := by rw [hl]; rfl
  have g2 : get l 2 = I first := by rw [hl]; rfl
  clear hl
  repeat first | (with_reducible first | refine Wp.seq ?_ | refine Wp.reg ?_ | refine Wp.block ?_ | refine Wp.skip ?_ | refine Wp.ret ?_ | refine Wp.exit ?_ | refine Wp.label ?_ | refine Wp.condG ?_) | simp (disch := omega) only [↓RP, RQ, TS, TR, ↓reduceIte, Nat.reduceEqDiff, Nat.reduceLT, Nat.reduceLeDiff, Int.reduceLT, Int.reduceLE, Int.reduceEq, Int.reduceAdd, Int.reduceSub, Int.reduceNeg, Int.reduceToNat, Nat.reduceAdd, Nat.reduceMul, Nat.reduceSub, reduceCtorEq, RC, Int.cast_ofNat_Int, hn, g0, g1, g2]
  refine (St.refl _ H).eNew 2 [I N, v] rfl rfl (by simp [hv.one]; rfl) tS27 fun A H1 hS => ?_
  repeat first | (with_reducible first | refine Wp.seq ?_ | refine Wp.reg ?_ | refine Wp.block ?_ | refine Wp.skip ?_ | refine Wp.ret ?_ | refine Wp.exit ?_ | refine Wp.label ?_ | refine Wp.condG ?_) | simp (disch := omega) only [↓RP, RQ, TS, TR, ↓reduceIte, Nat.reduceEqDiff, Nat.reduceLT, Nat.reduceLeDiff, Int.reduceLT, Int.reduceLE, Int.reduceEq, Int.reduceAdd, Int.reduceSub, Int.reduceNeg, Int.reduceToNat, Nat.reduceAdd, Nat.reduceMul, Nat.reduceSub, reduceCtorEq, RC, Int.cast_ofNat_Int, hn, g0, g1, g2]
  refine hS.eSlice [I (-1)] tP29 tF29 rfl rfl (by simp [Value.cells]) rfl rfl (by decide) (by decide) fun x H2 hS => ?_
  repeat first | (with_reducible first | refine Wp.seq ?_ | refine Wp.reg ?_ | refine Wp.block ?_ | refine Wp.skip ?_ | refine Wp.ret ?_ | refine Wp.exit ?_ | refine Wp.label ?_ | refine Wp.condG ?_) | simp (disch := omega) only [↓RP, RQ, TS, TR, ↓reduceIte, Nat.reduceEqDiff, Nat.reduceLT, Nat.reduceLeDiff, Int.reduceLT, Int.reduceLE, Int.reduceEq, Int.reduceAdd, Int.reduceSub, Int.reduceNeg, Int.reduceToNat, Nat.reduceAdd, Nat.reduceMul, Nat.reduceSub, reduceCtorEq, RC, Int.cast_ofNat_Int, hn, g0, g1, g2, hS.ld 0 rfl]
  refine callFW_of (repeat_ok N (by omega) hN x (hS.rd 1 rfl)) ?_
  rintro w H3 hS3
  have hS := hS.trans hS3
  simp only [List.nil_append, List.cons_append, List.append_nil, List.set_cons_zero, List.set_cons_succ, setMany_cons, setMany_nil, Nat.zero_add, Nat.mul_one, Nat.add_zero] at hS
  repeat first | (with_reducible first | refine Wp.seq ?_ | refine Wp.reg ?_ | refine Wp.block ?_ | refine Wp.skip ?_ | refine Wp.ret ?_ | refine Wp.exit ?_ | refine Wp.label ?_ | refine Wp.condG ?_) | simp (disch := omega) only [↓RP, RQ, TS, TR, ↓reduceIte, Nat.reduceEqDiff, Nat.reduceLT, Nat.reduceLeDiff, Int.reduceLT, Int.reduceLE, Int.reduceEq, Int.reduceAdd, Int.reduceSub, Int.reduceNeg, Int.reduceToNat, Nat.reduceAdd, Nat.reduceMul, Nat.reduceSub, reduceCtorEq, RC, Int.cast_ofNat_Int, hn, g0, g1, g2, hS.ld 0 rfl]
  refine hS.eMake1 N tM33 (by omega) fun w8 H4 hS4 => ?_
  have hrep : ∀ (N : Nat) (z : Value), List.replicate N z = (List.range N).map (fun _ => z) := fun N z => by
    rw [List.map_const', List.length_range]
  have hS := hS4.nils (fun _ => .slice none 0 0) (fun _ => []) (fun _ => rfl) (fun _ => rfl) N
  rw [hrep N (.slice none 0 0)] at hS
  simp only [List.nil_append, List.cons_append, List.append_nil, List.set_cons_zero, List.set_cons_succ, setMany_cons, setMany_nil, Nat.zero_add, Nat.mul_one, Nat.add_zero] at hS
  repeat first | (with_reducible first | refine Wp.seq ?_ | refine Wp.reg ?_ | refine Wp.block ?_ | refine Wp.skip ?_ | refine Wp.ret ?_ | refine Wp.exit ?_ | refine Wp.label ?_ | refine Wp.condG ?_) | simp (disch := omega) only [↓RP, RQ, TS, TR, ↓reduceIte, Nat.reduceEqDiff, Nat.reduceLT, Nat.reduceLeDiff, Int.reduceLT, Int.reduceLE, Int.reduceEq, Int.reduceAdd, Int.reduceSub, Int.reduceNeg, Int.reduceToNat, Nat.reduceAdd, Nat.reduceMul, Nat.reduceSub, reduceCtorEq, RC, Int.cast_ofNat_Int, hn, g0, g1, g2]
  have hS := hS.sub (os' := ⟨ptr A 0 2, 0, [I N, v]⟩ :: ⟨w, 1, List.replicate N (I (-1))⟩ :: ⟨w8, 1, (List.range N).map fun _ => .slice none 0 0⟩ :: inner N (fun _ => .slice none 0 0) (nxs es first first)) (by
    have e : nxs es first first = fun _ => [] := by funext n; simp [nxs]
    rw [e]
    exact List.Sublist.cons_cons _ (List.Sublist.cons _ (List.Sublist.refl _)))
  refine Wp.loopN (fun n l H' => l.length = 89 ∧ get l 1 = I s ∧ get l 3 = ptr A 0 2 ∧ get l 7 = w ∧ get l 8 = w8 ∧ ∃ (i : Nat) (ws : Nat → Value), n + i = es.length ∧ first ≤ i ∧ get l 9 = I i ∧
    St Try.prog H H' (⟨ptr A 0 2, 0, [I N, v]⟩ :: ⟨w, 1, List.replicate N (I (-1))⟩ :: ⟨w8, 1, (List.range N).map ws⟩ :: inner N ws (nxs es first i))) (es.length - first) ?_ ?_
  · repeat first | (with_reducible first | refine Wp.seq ?_ | refine Wp.reg ?_ | refine Wp.block ?_ | refine Wp.skip ?_ | refine Wp.ret ?_ | refine Wp.exit ?_ | refine Wp.label ?_ | refine Wp.condG ?_) | simp (disch := omega) only [↓RP, RQ, TS, TR, ↓reduceIte, Nat.reduceEqDiff, Nat.reduceLT, Nat.reduceLeDiff, Int.reduceLT, Int.reduceLE, Int.reduceEq, Int.reduceAdd, Int.reduceSub, Int.reduceNeg, Int.reduceToNat, Nat.reduceAdd, Nat.reduceMul, Nat.reduceSub, reduceCtorEq, RC, Int.cast_ofNat_Int, hn, g0, g1, g2]
    exact ⟨first, _, by omega, Nat.le_refl _, rfl, hS⟩
  · clear hS4 hS3 hS hn g0 g1 g2 hrep
    rintro n l H' ⟨hn, g1, g3, g7, g8, i, ws, hi, hfi, g9, hS⟩
    have hv1 : Sl2 H' v _ _ es := hS.base hv
    have hrl : (List.range N).length = N := List.length_range
    repeat first | (with_reducible first | refine Wp.seq ?_ | refine Wp.reg ?_ | refine Wp.block ?_ | refine Wp.skip ?_ | refine Wp.ret ?_ | refine Wp.exit ?_ | refine Wp.label ?_ | refine Wp.condG ?_) | simp (disch := omega) only [↓RP, RQ, TS, TR, ↓reduceIte, Nat.reduceEqDiff, Nat.reduceLT, Nat.reduceLeDiff, Int.reduceLT, Int.reduceLE, Int.reduceEq, Int.reduceAdd, Int.reduceSub, Int.reduceNeg, Int.reduceToNat, Nat.reduceAdd, Nat.reduceMul, Nat.reduceSub, reduceCtorEq, RC, Int.cast_ofNat_Int, hn, g1, g3, g7, g8, g9, hS.ld 0 rfl, hv1.len]
    refine condW_split (fun h => ?_) (fun h => ?_)
    · have hm := hval _ (getD_mem (0, 0) (show i < es.length by omega))
      repeat first | (with_reducible first | refine Wp.seq ?_ | refine Wp.reg ?_ | refine Wp.block ?_ | refine Wp.skip ?_ | refine Wp.ret ?_ | refine Wp.exit ?_ | refine Wp.label ?_ | refine Wp.condG ?_) | simp (disch := omega) only [↓RP, RQ, TS, TR, ↓reduceIte, Nat.reduceEqDiff, Nat.reduceLT, Nat.reduceLeDiff, Int.reduceLT, Int.reduceLE, Int.reduceEq, Int.reduceAdd, Int.reduceSub, Int.reduceNeg, Int.reduceToNat, Nat.reduceAdd, Nat.reduceMul, Nat.reduceSub, reduceCtorEq, RC, Int.cast_ofNat_Int, hn, g1, g3, g7, g8, g9, hS.ld 0 rfl, hv1.idx, hv1.ldA (0, 0)]
      refine hS.eNew 2 [I 0, I 0] rfl rfl rfl tS48 fun C H5 hS => ?_
      have hS := hS.front
      repeat first | (with_reducible first | refine Wp.seq ?_ | refine Wp.reg ?_ | refine Wp.block ?_ | refine Wp.skip ?_ | refine Wp.ret ?_ | refine Wp.exit ?_ | refine Wp.label ?_ | refine Wp.condG ?_) | simp (disch := omega) only [↓RP, RQ, TS, TR, ↓reduceIte, Nat.reduceEqDiff, Nat.reduceLT, Nat.reduceLeDiff, Int.reduceLT, Int.reduceLE, Int.reduceEq, Int.reduceAdd, Int.reduceSub, Int.reduceNeg, Int.reduceToNat, Nat.reduceAdd, Nat.reduceMul, Nat.reduceSub, reduceCtorEq, RC, Int.cast_ofNat_Int, hn, g1, g3, g7, g8, g9]
      refine hS.eStore 0 rfl [_, _] rfl rfl tS48 (by simp) fun H6 hS => ?_
      simp only [List.nil_append, List.cons_append, List.append_nil, List.set_cons_zero, List.set_cons_succ, setMany_cons, setMany_nil, Nat.zero_add, Nat.mul_one, Nat.add_zero] at hS
      have ho : Sl1 H6 w8 ws (List.range N) := hS.rd 3 rfl
      repeat first | (with_reducible first | refine Wp.seq ?_ | refine Wp.reg ?_ | refine Wp.block ?_ | refine Wp.skip ?_ | refine Wp.ret ?_ | refine Wp.exit ?_ | refine Wp.label ?_ | refine Wp.condG ?_) | simp (disch := omega) only [↓RP, RQ, TS, TR, ↓reduceIte, Nat.reduceEqDiff, Nat.reduceLT, Nat.reduceLeDiff, Int.reduceLT, Int.reduceLE, Int.reduceEq, Int.reduceAdd, Int.reduceSub, Int.reduceNeg, Int.reduceToNat, Nat.reduceAdd, Nat.reduceMul, Nat.reduceSub, reduceCtorEq, RC, Int.cast_ofNat_Int, hn, g1, g3, g7, g8, g9]
      refine Wp.drwT hmix [(2, 11), (2, 12), (5, 11), (7, 11)] (by kernel_rfl) (by kernel_rfl) ?_
      repeat first | (with_reducible first | refine Wp.seq ?_ | refine Wp.reg ?_ | refine Wp.block ?_ | refine Wp.skip ?_ | refine Wp.ret ?_ | refine Wp.exit ?_ | refine Wp.label ?_ | refine Wp.condG ?_) | simp (disch := omega) only [↓RP, RQ, TS, TR, ↓reduceIte, Nat.reduceEqDiff, Nat.reduceLT, Nat.reduceLeDiff, Int.reduceLT, Int.reduceLE, Int.reduceEq, Int.reduceAdd, Int.reduceSub, Int.reduceNeg, Int.reduceToNat, Nat.reduceAdd, Nat.reduceMul, Nat.reduceSub, reduceCtorEq, RC, Int.cast_ofNat_Int, hn, g1, g3, g7, g8, g9, hS.ld 0 rfl, ho.idx, ho.ld 0, getD_range]
      refine hS.eSlice [I _] tP29 tF29 rfl rfl (by simp [Value.cells]) rfl rfl (by decide) (by decide) fun x H7 hS7 => ?_
      have hS7 := hS7.front
      have ho7 : Sl1 H7 w8 ws (List.range N) := hS7.rd 4 rfl
      repeat first | (with_reducible first | refine Wp.seq ?_ | refine Wp.reg ?_ | refine Wp.block ?_ | refine Wp.skip ?_ | refine Wp.ret ?_ | refine Wp.exit ?_ | refine Wp.label ?_ | refine Wp.condG ?_) | simp (disch := omega) only [↓RP, RQ, TS, TR, ↓reduceIte, Nat.reduceEqDiff, Nat.reduceLT, Nat.reduceLeDiff, Int.reduceLT, Int.reduceLE, Int.reduceEq, Int.reduceAdd, Int.reduceSub, Int.reduceNeg, Int.reduceToNat, Nat.reduceAdd, Nat.reduceMul, Nat.reduceSub, reduceCtorEq, RC, Int.cast_ofNat_Int, hn, g1, g3, g7, g8, g9]
      refine hS7.eAppend ((es.getD i (0, 0)).1 + 5) (inner_get N ws _ _ hm.1) (hS7.rd 0 rfl) tP29 ?_ fun w' H8 hS8 => ?_
      · have : (nxs es first i (es.getD i (0, 0)).1).length ≤ es.length := by
          unfold nxs
          rw [List.length_map]
          refine Nat.le_trans (List.length_filter_le _ _) ?_
          simp
          omega
        simp only [nts, List.length_map, List.length_cons, List.length_nil]
        omega
      simp only [List.nil_append, List.cons_append, List.append_nil, List.set_cons_zero, List.set_cons_succ, setMany_cons, setMany_nil, Nat.zero_add, Nat.mul_one, Nat.add_zero] at hS8
      rw [show nts (nxs es first i (es.getD i (0, 0)).1) ++ [I (es.getD i (0, 0)).2] = nts (nxs es first i (es.getD i (0, 0)).1 ++ [(es.getD i (0, 0)).2]) from by simp [nts], inner_set, ← nxs_succ es first i (by omega) hfi] at hS8
      have ho8 : Sl1 H8 w8 ws (List.range N) := hS8.rd 4 rfl
      have hw' := (hS8.rd ((es.getD i (0, 0)).1 + 5) (inner_get N _ _ _ hm.1)).cells
      rw [show upd ws (es.getD i (0, 0)).1 w' (es.getD i (0, 0)).1 = w' from if_pos rfl] at hw'
      repeat first | (with_reducible first | refine Wp.seq ?_ | refine Wp.reg ?_ | refine Wp.block ?_ | refine Wp.skip ?_ | refine Wp.ret ?_ | refine Wp.exit ?_ | refine Wp.label ?_ | refine Wp.condG ?_) | simp (disch := omega) only [↓RP, RQ, TS, TR, ↓reduceIte, Nat.reduceEqDiff, Nat.reduceLT, Nat.reduceLeDiff, Int.reduceLT, Int.reduceLE, Int.reduceEq, Int.reduceAdd, Int.reduceSub, Int.reduceNeg, Int.reduceToNat, Nat.reduceAdd, Nat.reduceMul, Nat.reduceSub, reduceCtorEq, RC, Int.cast_ofNat_Int, hn, g1, g3, g7, g8, g9, ho8.idx]
      refine hS8.eStoreE 4 rfl [w'] (by rw [hw'.1]) (by simp [hw'.2.1]) tS29 (by simp) (by simp only [List.length_map, List.length_cons, List.length_nil]; omega) fun H9 hS9 => ?_
      simp only [List.nil_append, List.cons_append, List.append_nil, List.set_cons_zero, List.set_cons_succ, setMany_cons, setMany_nil, Nat.zero_add, Nat.mul_one, Nat.add_zero] at hS9
      rw [map_upd] at hS9
      repeat first | (with_reducible first | refine Wp.seq ?_ | refine Wp.reg ?_ | refine Wp.block ?_ | refine Wp.skip ?_ | refine Wp.ret ?_ | refine Wp.exit ?_ | refine Wp.label ?_ | refine Wp.condG ?_) | simp (disch := omega) only [↓RP, RQ, TS, TR, ↓reduceIte, Nat.reduceEqDiff, Nat.reduceLT, Nat.reduceLeDiff, Int.reduceLT, Int.reduceLE, Int.reduceEq, Int.reduceAdd, Int.reduceSub, Int.reduceNeg, Int.reduceToNat, Nat.reduceAdd, Nat.reduceMul, Nat.reduceSub, reduceCtorEq, RC, Int.cast_ofNat_Int, hn, g1, g3, g7, g8, g9, hS7.ld 1 rfl, hS8.ld 1 rfl, ho7.ld 0, getD_range, wrap_fit]
      exact ⟨n - 1, by omega, i + 1, _, by omega, by omega, rfl, hS9.tail.tail⟩
    · have hie : i = es.length := by omega
      subst hie
      rw [show List.replicate N (I (-1)) = (List.replicate N (-1 : Int)).map (.int .i64) from by simp] at hS
      have hd : Sl1 H' w (.int .i64) (List.replicate N (-1 : Int)) := hS.rd 1 rfl
      have hrl2 : (List.replicate N (-1 : Int)).length = N := List.length_replicate
      repeat first | (with_reducible first | refine Wp.seq ?_ | refine Wp.reg ?_ | refine Wp.block ?_ | refine Wp.skip ?_ | refine Wp.ret ?_ | refine Wp.exit ?_ | refine Wp.label ?_ | refine Wp.condG ?_) | simp (disch := omega) only [↓RP, RQ, TS, TR, ↓reduceIte, Nat.reduceEqDiff, Nat.reduceLT, Nat.reduceLeDiff, Int.reduceLT, Int.reduceLE, Int.reduceEq, Int.reduceAdd, Int.reduceSub, Int.reduceNeg, Int.reduceToNat, Nat.reduceAdd, Nat.reduceMul, Nat.reduceSub, reduceCtorEq, RC, Int.cast_ofNat_Int, hn, g1, g3, g7, g8, g9, hd.idx]
      refine hS.eStoreE 1 rfl [_] rfl rfl tS3 (by simp) (by simp only [List.length_map, List.length_cons, List.length_nil]; omega) fun H5 hS => ?_
      simp only [List.nil_append, List.cons_append, List.append_nil, List.set_cons_zero, List.set_cons_succ, setMany_cons, setMany_nil, Nat.zero_add, Nat.mul_one, Nat.add_zero] at hS
      rw [← List.map_set] at hS
      repeat first | (with_reducible first | refine Wp.seq ?_ | refine Wp.reg ?_ | refine Wp.block ?_ | refine Wp.skip ?_ | refine Wp.ret ?_ | refine Wp.exit ?_ | refine Wp.label ?_ | refine Wp.condG ?_) | simp (disch := omega) only [↓RP, RQ, TS, TR, ↓reduceIte, Nat.reduceEqDiff, Nat.reduceLT, Nat.reduceLeDiff, Int.reduceLT, Int.reduceLE, Int.reduceEq, Int.reduceAdd, Int.reduceSub, Int.reduceNeg, Int.reduceToNat, Nat.reduceAdd, Nat.reduceMul, Nat.reduceSub, reduceCtorEq, RC, Int.cast_ofNat_Int, hn, g1, g3, g7, g8, g9]
      refine hS.eSlice [I s] tP29 tF29 rfl rfl (by simp [Value.cells]) rfl rfl (by decide) (by decide) fun qv H6 hS => ?_
      have hS := hS.front
      repeat first | (with_reducible first | refine Wp.seq ?_ | refine Wp.reg ?_ | refine Wp.block ?_ | refine Wp.skip ?_ | refine Wp.ret ?_ | refine Wp.exit ?_ | refine Wp.label ?_ | refine Wp.condG ?_) | simp (disch := omega) only [↓RP, RQ, TS, TR, ↓reduceIte, Nat.reduceEqDiff, Nat.reduceLT, Nat.reduceLeDiff, Int.reduceLT, Int.reduceLE, Int.reduceEq, Int.reduceAdd, Int.reduceSub, Int.reduceNeg, Int.reduceToNat, Nat.reduceAdd, Nat.reduceMul, Nat.reduceSub, reduceCtorEq, RC, Int.cast_ofNat_Int, hn, g1, g3, g7, g8, g9]
      have hval' : ∀ e ∈ es.drop first, e.1 < N ∧ e.2 < N := fun e he => hval e (List.mem_of_mem_drop he)
      have hnx : ∀ x j, (x, j) ∈ es.drop first → j ∈ nxs es first es.length x ∧ j < N := fun x j hj => by
        refine ⟨?_, (hval' _ hj).2⟩
        unfold nxs
        rw [List.take_length, List.mem_map]
        exact ⟨(x, j), List.mem_filter.2 ⟨hj, by simp⟩, rfl⟩
      have hnx2 : ∀ x j, j ∈ nxs es first es.length x → (x, j) ∈ es.drop first := fun x j hj => by
        unfold nxs at hj
        rw [List.take_length, List.mem_map] at hj
        obtain ⟨⟨e1, e2⟩, h3, rfl⟩ := hj
        obtain ⟨h4, h5⟩ := List.mem_filter.1 h3
        have : e1 = x := by simpa using h5
        subst this
        exact h4
      have hnl : ∀ x, (nxs es first es.length x).length ≤ 1000 := fun x => by
        unfold nxs
        rw [List.length_map]
        refine Nat.le_trans (List.length_filter_le _ _) ?_
        simp
        omega
      generalize nxs es first es.length = nx at hS hnx hnx2 hnl
      refine Wp.loopN (fun n l H' => l.length = 89 ∧ get l 7 = w ∧ get l 8 = w8 ∧ ∃ (d : List Int) (q : List Nat) (qv : Value), get l 11 = qv ∧ n = q.length + cnt d ∧ n ≤ N ∧ Bf (es.drop first) N s d q ∧
        St Try.prog H H' (⟨qv, 1, nts q⟩ :: ⟨ptr A 0 2, 0, [I N, v]⟩ :: ⟨w, 1, d.map (.int .i64)⟩ :: ⟨w8, 1, (List.range N).map ws⟩ :: inner N ws nx)) N ?_ ?_
      · repeat first | (with_reducible first | refine Wp.seq ?_ | refine Wp.reg ?_ | refine Wp.block ?_ | refine Wp.skip ?_ | refine Wp.ret ?_ | refine Wp.exit ?_ | refine Wp.label ?_ | refine Wp.condG ?_) | simp (disch := omega) only [↓RP, RQ, TS, TR, ↓reduceIte, Nat.reduceEqDiff, Nat.reduceLT, Nat.reduceLeDiff, Int.reduceLT, Int.reduceLE, Int.reduceEq, Int.reduceAdd, Int.reduceSub, Int.reduceNeg, Int.reduceToNat, Nat.reduceAdd, Nat.reduceMul, Nat.reduceSub, reduceCtorEq, RC, Int.cast_ofNat_Int, hn, g1, g3, g7, g8, g9]
        have hb := Bf.first (es := es.drop first) hs
        have hc : cnt ((List.replicate N (-1 : Int)).set s 0) + 1 = N := by
          rw [cnt_set _ _ _ (by simpa using hs) (by simp [List.getD_eq_getElem?_getD, hs]) (Int.le_refl _)]
          simp [cnt, List.countP_replicate]
        exact ⟨_, [s], _, rfl, by simp; omega, Nat.le_refl _, hb, hS⟩
      · clear hS hn g1 g3 g7 g8 g9 hd hv1 hi h hfi
        rintro n l H' ⟨hn, g7, g8, d, q, qv, g11, hnq, hnN, hB, hS⟩
        have hq : Sl1 H' qv (fun n : Nat => I n) q := hS.rd 0 rfl
        repeat first | (with_reducible first | refine Wp.seq ?_ | refine Wp.reg ?_ | refine Wp.block ?_ | refine Wp.skip ?_ | refine Wp.ret ?_ | refine Wp.exit ?_ | refine Wp.label ?_ | refine Wp.condG ?_) | simp (disch := omega) only [↓RP, RQ, TS, TR, ↓reduceIte, Nat.reduceEqDiff, Nat.reduceLT, Nat.reduceLeDiff, Int.reduceLT, Int.reduceLE, Int.reduceEq, Int.reduceAdd, Int.reduceSub, Int.reduceNeg, Int.reduceToNat, Nat.reduceAdd, Nat.reduceMul, Nat.reduceSub, reduceCtorEq, RC, Int.cast_ofNat_Int, hn, g7, g8, g11, hq.len]
        refine condW_split (fun h => ?_) (fun h => ?_)
        · have hq0 : 0 < q.length := by omega
          have hqe : q = q.getD 0 0 :: q.drop 1 := by
            cases q with
            | nil => simp at hq0
            | cons a q => rfl
          have hlen : (nts q).length = q.length * (0 + 1) := by simp [nts]
          have ho : Sl1 H' w8 ws (List.range N) := hS.rd 3 rfl
          have hB0 := hB
          rw [hqe] at hB0
          have hG := hB0.pop
          have hx := hG.xN
          have hS2 := hS.suffix 0 rfl hlen 1 hq0 hq0
          simp only [List.nil_append, List.cons_append, List.append_nil, List.set_cons_zero, List.set_cons_succ, setMany_cons, setMany_nil, Nat.zero_add, Nat.mul_one, Nat.add_zero] at hS2
          rw [show (nts q).drop 1 = nts (q.drop 1) from (List.map_drop ..).symm] at hS2
          have hin : Sl1 H' (ws (q.getD 0 0)) (fun n : Nat => I n) (nx (q.getD 0 0)) := hS.rd (q.getD 0 0 + 4) (inner_get N ws nx _ hx.1)
          repeat first | (with_reducible first | refine Wp.seq ?_ | refine Wp.reg ?_ | refine Wp.block ?_ | refine Wp.skip ?_ | refine Wp.ret ?_ | refine Wp.exit ?_ | refine Wp.label ?_ | refine Wp.condG ?_) | simp (disch := omega) only [↓RP, RQ, TS, TR, ↓reduceIte, Nat.reduceEqDiff, Nat.reduceLT, Nat.reduceLeDiff, Int.reduceLT, Int.reduceLE, Int.reduceEq, Int.reduceAdd, Int.reduceSub, Int.reduceNeg, Int.reduceToNat, Nat.reduceAdd, Nat.reduceMul, Nat.reduceSub, reduceCtorEq, RC, Int.cast_ofNat_Int, hn, g7, g8, g11, hq.idx, hq.ld 0, (hS.rd 0 rfl).sliceL hlen, ho.idx, ho.ld 0, getD_range, hin.len]
          generalize hxx : q.getD 0 0 = x at *
          refine Wp.loopN (fun n2 l H' => l.length = 89 ∧ get l 7 = w ∧ get l 8 = w8 ∧ get l 12 = I x ∧ get l 64 = ws x ∧ get l 65 = I (nx x).length ∧ ∃ (j : Nat) (d : List Int) (q : List Nat) (qv : Value), n2 + j = (nx x).length ∧ get l 66 = I j ∧ get l 11 = qv ∧
            q.length + cnt d + 1 = n ∧ Bg (es.drop first) N s x ((nx x).take j) d q ∧
            St Try.prog H H' (⟨qv, 1, nts q⟩ :: ⟨ptr A 0 2, 0, [I N, v]⟩ :: ⟨w, 1, d.map (.int .i64)⟩ :: ⟨w8, 1, (List.range N).map ws⟩ :: inner N ws nx)) (nx x).length ?_ ?_
          · repeat first | (with_reducible first | refine Wp.seq ?_ | refine Wp.reg ?_ | refine Wp.block ?_ | refine Wp.skip ?_ | refine Wp.ret ?_ | refine Wp.exit ?_ | refine Wp.label ?_ | refine Wp.condG ?_) | simp (disch := omega) only [↓RP, RQ, TS, TR, ↓reduceIte, Nat.reduceEqDiff, Nat.reduceLT, Nat.reduceLeDiff, Int.reduceLT, Int.reduceLE, Int.reduceEq, Int.reduceAdd, Int.reduceSub, Int.reduceNeg, Int.reduceToNat, Nat.reduceAdd, Nat.reduceMul, Nat.reduceSub, reduceCtorEq, RC, Int.cast_ofNat_Int, hn, g7, g8, g11]
            exact ⟨0, d, _, _, rfl, rfl, rfl, by simp; omega, by simpa using hG, hS2⟩
          clear hS hS2 hn g7 g8 g11 hG hB0 hB hq ho hin hlen hqe hxx hnq
          rintro n2 l H' ⟨hn, g7, g8, g12, g64, g65, j, d, q, qv, hj, g66, g11, hcn, hG, hS⟩
          repeat first | (with_reducible first | refine Wp.seq ?_ | refine Wp.reg ?_ | refine Wp.block ?_ | refine Wp.skip ?_ | refine Wp.ret ?_ | refine Wp.exit ?_ | refine Wp.label ?_ | refine Wp.condG ?_) | simp (disch := omega) only [↓RP, RQ, TS, TR, ↓reduceIte, Nat.reduceEqDiff, Nat.reduceLT, Nat.reduceLeDiff, Int.reduceLT, Int.reduceLE, Int.reduceEq, Int.reduceAdd, Int.reduceSub, Int.reduceNeg, Int.reduceToNat, Nat.reduceAdd, Nat.reduceMul, Nat.reduceSub, reduceCtorEq, RC, Int.cast_ofNat_Int, hn, g7, g8, g11, g12, g64, g65, g66]
          refine condW_split (fun h => ?_) (fun h => ?_)
          · have hin : Sl1 H' (ws x) (fun n : Nat => I n) (nx x) := hS.rd (x + 4) (inner_get N ws nx _ hx.1)
            have hd : Sl1 H' w (.int .i64) d := hS.rd 2 rfl
            have hdl := hG.len
            have hjl : j < (nx x).length := by omega
            have hnlx := hnl x
            have hmem := hnx2 x _ (getD_mem 0 hjl)
            have htN := (hval' _ hmem).2
            have htk : (nx x).take (j + 1) = (nx x).take j ++ [(nx x).getD j 0] := take_succ_getD _ _ _ hjl
            simp only at htN
            repeat first | (with_reducible first | refine Wp.seq ?_ | refine Wp.reg ?_ | refine Wp.block ?_ | refine Wp.skip ?_ | refine Wp.ret ?_ | refine Wp.exit ?_ | refine Wp.label ?_ | refine Wp.condG ?_) | simp (disch := omega) only [↓RP, RQ, TS, TR, ↓reduceIte, Nat.reduceEqDiff, Nat.reduceLT, Nat.reduceLeDiff, Int.reduceLT, Int.reduceLE, Int.reduceEq, Int.reduceAdd, Int.reduceSub, Int.reduceNeg, Int.reduceToNat, Nat.reduceAdd, Nat.reduceMul, Nat.reduceSub, reduceCtorEq, RC, Int.cast_ofNat_Int, hn, g7, g8, g11, g12, g64, g65, g66, hin.idx, hin.ld 0, hd.idx, hd.ld 0]
            refine condW_split (fun h5 => ?_) (fun h5 => ?_)
            · have hsz := hG.size x hx.1
              have hx0 := hG.xN.2
              repeat first | (with_reducible first | refine Wp.seq ?_ | refine Wp.reg ?_ | refine Wp.block ?_ | refine Wp.skip ?_ | refine Wp.ret ?_ | refine Wp.exit ?_ | refine Wp.label ?_ | refine Wp.condG ?_) | simp (disch := omega) only [↓RP, RQ, TS, TR, ↓reduceIte, Nat.reduceEqDiff, Nat.reduceLT, Nat.reduceLeDiff, Int.reduceLT, Int.reduceLE, Int.reduceEq, Int.reduceAdd, Int.reduceSub, Int.reduceNeg, Int.reduceToNat, Nat.reduceAdd, Nat.reduceMul, Nat.reduceSub, reduceCtorEq, RC, Int.cast_ofNat_Int, hn, g7, g8, g11, g12, g64, g65, g66, hd.idx, hd.ld 0, wrap_fit]
              refine hS.eStoreE 2 rfl [_] rfl rfl tS3 (by simp) (by simp only [List.length_map, List.length_cons, List.length_nil]; omega) fun H5 hS => ?_
              simp only [List.nil_append, List.cons_append, List.append_nil, List.set_cons_zero, List.set_cons_succ, setMany_cons, setMany_nil, Nat.zero_add, Nat.mul_one, Nat.add_zero] at hS
              rw [← List.map_set] at hS
              repeat first | (with_reducible first | refine Wp.seq ?_ | refine Wp.reg ?_ | refine Wp.block ?_ | refine Wp.skip ?_ | refine Wp.ret ?_ | refine Wp.exit ?_ | refine Wp.label ?_ | refine Wp.condG ?_) | simp (disch := omega) only [↓RP, RQ, TS, TR, ↓reduceIte, Nat.reduceEqDiff, Nat.reduceLT, Nat.reduceLeDiff, Int.reduceLT, Int.reduceLE, Int.reduceEq, Int.reduceAdd, Int.reduceSub, Int.reduceNeg, Int.reduceToNat, Nat.reduceAdd, Nat.reduceMul, Nat.reduceSub, reduceCtorEq, RC, Int.cast_ofNat_Int, hn, g7, g8, g11, g12, g64, g65, g66]
              refine hS.eSlice [I _] tP29 tF29 rfl rfl (by simp [Value.cells]) rfl rfl (by decide) (by decide) fun y H6 hS => ?_
              have hS := hS.front
              repeat first | (with_reducible first | refine Wp.seq ?_ | refine Wp.reg ?_ | refine Wp.block ?_ | refine Wp.skip ?_ | refine Wp.ret ?_ | refine Wp.exit ?_ | refine Wp.label ?_ | refine Wp.condG ?_) | simp (disch := omega) only [↓RP, RQ, TS, TR, ↓reduceIte, Nat.reduceEqDiff, Nat.reduceLT, Nat.reduceLeDiff, Int.reduceLT, Int.reduceLE, Int.reduceEq, Int.reduceAdd, Int.reduceSub, Int.reduceNeg, Int.reduceToNat, Nat.reduceAdd, Nat.reduceMul, Nat.reduceSub, reduceCtorEq, RC, Int.cast_ofNat_Int, hn, g7, g8, g11, g12, g64, g65, g66]
              refine hS.eAppend 1 rfl (hS.rd 0 rfl) tP29 (by simp only [nts, List.length_map, List.length_cons, List.length_nil]; omega) fun qv' H7 hS => ?_
              simp only [List.nil_append, List.cons_append, List.append_nil, List.set_cons_zero, List.set_cons_succ, setMany_cons, setMany_nil, Nat.zero_add, Nat.mul_one, Nat.add_zero] at hS
              have hcs := cnt_set d _ (d.getD x 0 + 1) (by omega) h5 (by omega)
              repeat first | (with_reducible first | refine Wp.seq ?_ | refine Wp.reg ?_ | refine Wp.block ?_ | refine Wp.skip ?_ | refine Wp.ret ?_ | refine Wp.exit ?_ | refine Wp.label ?_ | refine Wp.condG ?_) | simp (disch := omega) only [↓RP, RQ, TS, TR, ↓reduceIte, Nat.reduceEqDiff, Nat.reduceLT, Nat.reduceLeDiff, Int.reduceLT, Int.reduceLE, Int.reduceEq, Int.reduceAdd, Int.reduceSub, Int.reduceNeg, Int.reduceToNat, Nat.reduceAdd, Nat.reduceMul, Nat.reduceSub, reduceCtorEq, RC, Int.cast_ofNat_Int, hn, g7, g8, g11, g12, g64, g65, g66, wrap_fit]
              refine ⟨n2 - 1, by omega, j + 1, d.set ((nx x).getD j 0) (d.getD x 0 + 1), q ++ [(nx x).getD j 0], qv', by omega, rfl, rfl, ?_, ?_, ?_⟩
              · simp only [List.length_append, List.length_cons, List.length_nil]
                omega
              · rw [htk]
                exact hG.new _ htN hmem h5
              · have hS := hS.tail
                simpa [nts] using hS
            · repeat first | (with_reducible first | refine Wp.seq ?_ | refine Wp.reg ?_ | refine Wp.block ?_ | refine Wp.skip ?_ | refine Wp.ret ?_ | refine Wp.exit ?_ | refine Wp.label ?_ | refine Wp.condG ?_) | simp (disch := omega) only [↓RP, RQ, TS, TR, ↓reduceIte, Nat.reduceEqDiff, Nat.reduceLT, Nat.reduceLeDiff, Int.reduceLT, Int.reduceLE, Int.reduceEq, Int.reduceAdd, Int.reduceSub, Int.reduceNeg, Int.reduceToNat, Nat.reduceAdd, Nat.reduceMul, Nat.reduceSub, reduceCtorEq, RC, Int.cast_ofNat_Int, hn, g7, g8, g11, g12, g64, g65, g66, wrap_fit]
              refine ⟨n2 - 1, by omega, j + 1, d, q, qv, by omega, rfl, rfl, hcn, ?_, hS⟩
              rw [htk]
              exact hG.old _ (by omega)
          · repeat first | (with_reducible first | refine Wp.seq ?_ | refine Wp.reg ?_ | refine Wp.block ?_ | refine Wp.skip ?_ | refine Wp.ret ?_ | refine Wp.exit ?_ | refine Wp.label ?_ | refine Wp.condG ?_) | simp (disch := omega) only [↓RP, RQ, TS, TR, ↓reduceIte, Nat.reduceEqDiff, Nat.reduceLT, Nat.reduceLeDiff, Int.reduceLT, Int.reduceLE, Int.reduceEq, Int.reduceAdd, Int.reduceSub, Int.reduceNeg, Int.reduceToNat, Nat.reduceAdd, Nat.reduceMul, Nat.reduceSub, reduceCtorEq, RC, Int.cast_ofNat_Int, hn, g7, g8, g11, g12, g64, g65, g66]
            have hjl : (nx x).take j = nx x := List.take_of_length_le (by omega)
            rw [hjl] at hG
            exact ⟨_, by omega, d, q, qv, rfl, rfl, by omega, hG.shut (hnx x), hS⟩
        · repeat first | (with_reducible first | refine Wp.seq ?_ | refine Wp.reg ?_ | refine Wp.block ?_ | refine Wp.skip ?_ | refine Wp.ret ?_ | refine Wp.exit ?_ | refine Wp.label ?_ | refine Wp.condG ?_) | simp (disch := omega) only [↓RP, RQ, TS, TR, ↓reduceIte, Nat.reduceEqDiff, Nat.reduceLT, Nat.reduceLeDiff, Int.reduceLT, Int.reduceLE, Int.reduceEq, Int.reduceAdd, Int.reduceSub, Int.reduceNeg, Int.reduceToNat, Nat.reduceAdd, Nat.reduceMul, Nat.reduceSub, reduceCtorEq, RC, Int.cast_ofNat_Int, hn, g7, g8, g11]
          have hq0 : q = [] := List.eq_nil_of_length_eq_zero (by omega)
          subst hq0
          exact ⟨d, hB.isD hval', fun k hk => by have := hB.size k hk; omega, hS.sub (by simp)⟩
end Go.Ds
/-
  Plain graphs: the reference's table of steps, by relaxing edges until nothing changes.
-/
namespace Go.Plain

/-- A row of least numbers of edges, at least one, from a node; 0 where none lead. -/
structure IsS (es : List (Nat × Nat)) (N i : Nat) (row : List Nat) : Prop where
  len : row.length = N
  zero : ∀ k, k < N → row.getD k 0 = 0 → ∀ n, ¬ W es (n + 1) i k
  pos : ∀ k, k < N → 0 < row.getD k 0 → W es (row.getD k 0) i k ∧ ∀ n, W es (n + 1) i k → row.getD k 0 ≤ n + 1

def nz (row : List Nat) : Nat := row.countP (fun x => decide (0 < x))
def wt (N : Nat) (row : List Nat) : Nat := (row.map fun x => if x = 0 then N + 1 else x).sum

/-- What an edge offers its target. -/
def offer (i : Nat) (row : List Nat) (e : Nat × Nat) : Nat := if e.1 = i then 1 else if 0 < row.getD e.1 0 then row.getD e.1 0 + 1 else 0
def better (i : Nat) (row : List Nat) (e : Nat × Nat) : Prop := 0 < offer i row e ∧ (row.getD e.2 0 = 0 ∨ offer i row e < row.getD e.2 0)

structure RI (es : List (Nat × Nat)) (N i : Nat) (row : List Nat) : Prop where
  len : row.length = N
  walk : ∀ k, k < N → 0 < row.getD k 0 → W es (row.getD k 0) i k
  small : ∀ k, k < N → row.getD k 0 ≤ nz row

theorem getD_setN (d : List Nat) (t v k : Nat) (ht : t < d.length) : (d.set t v).getD k 0 = if k = t then v else d.getD k 0 := by
  simp only [List.getD_eq_getElem?_getD, List.getElem?_set]
  by_cases h : t = k
  · subst h; simp [ht]
  · simp [h, Ne.symm h]

theorem nz_set (d : List Nat) (t v : Nat) (ht : t < d.length) (hv : 0 < v) : nz (d.set t v) = nz d + if d.getD t 0 = 0 then 1 else 0 := by
  induction d generalizing t with
  | nil => simp at ht
  | cons a d ih =>
    cases t with
    | zero =>
      simp only [nz, List.set_cons_zero, List.countP_cons, List.getD_cons_zero, hv]
      by_cases h : a = 0
      · simp [h]
      · have : 0 < a := by omega
        simp [h, this]
    | succ t =>
      have := ih t (by simpa using ht)
      simp only [nz, List.set_cons_succ, List.countP_cons, List.getD_cons_succ] at this ⊢
      omega

theorem wt_set (N : Nat) (d : List Nat) (t v : Nat) (ht : t < d.length) (hv : 0 < v) : wt N (d.set t v) + (if d.getD t 0 = 0 then N + 1 else d.getD t 0) = wt N d + v := by
  induction d generalizing t with
  | nil => simp at ht
  | cons a d ih =>
    cases t with
    | zero =>
      have : v ≠ 0 := by omega
      simp only [wt, List.set_cons_zero, List.map_cons, List.sum_cons, List.getD_cons_zero, this, if_false]
      omega
    | succ t =>
      have := ih t (by simpa using ht)
      simp only [wt, List.set_cons_succ, List.map_cons, List.sum_cons, List.getD_cons_succ] at this ⊢
      omega

theorem nz_le (d : List Nat) : nz d ≤ d.length := List.countP_le_length

theorem RI.offer_le {es : List (Nat × Nat)} {N i : Nat} {row : List Nat} (h : RI es N i row) (e : Nat × Nat) (he : e.1 < N) : offer i row e ≤ nz row + 1 := by
  unfold offer
  have := h.small e.1 he
  split
  · omega
  · split <;> omega

theorem RI.step {es : List (Nat × Nat)} {N i : Nat} {row : List Nat} (h : RI es N i row) (e : Nat × Nat) (he : e ∈ es) (h1 : e.1 < N) (h2 : e.2 < N) (hb : better i row e) :
    RI es N i (row.set e.2 (offer i row e)) ∧ wt N (row.set e.2 (offer i row e)) < wt N row := by
  have hl : e.2 < row.length := by rw [h.len]; exact h2
  have hg := fun k => getD_setN row e.2 (offer i row e) k hl
  have hnz := nz_set row e.2 (offer i row e) hl hb.1
  have hwt := wt_set N row e.2 (offer i row e) hl hb.1
  have hoff := h.offer_le e h1
  have hN := nz_le row
  rw [h.len] at hN
  have hw : W es (offer i row e) i e.2 := by
    unfold offer
    split
    · rename_i hh
      exact ⟨i, rfl, by rw [← hh]; exact he⟩
    · split
      · rename_i h3 h4
        exact ⟨e.1, h.walk e.1 h1 h4, he⟩
      · rename_i h3 h4
        have := hb.1
        unfold offer at this
        rw [if_neg h3, if_neg h4] at this
        omega
  refine ⟨⟨by rw [List.length_set]; exact h.len, ?_, ?_⟩, ?_⟩
  · intro k hk hk0
    rw [hg] at hk0 ⊢
    split
    · rename_i e1; rw [e1]; exact hw
    · rename_i e1; rw [if_neg e1] at hk0; exact h.walk k hk hk0
  · intro k hk
    have := h.small k hk
    rw [hg, hnz]
    split
    · rcases hb.2 with h3 | h3
      · rw [if_pos h3]; exact hoff
      · have h4 := h.small e.2 h2
        omega
    · omega
  · rcases hb.2 with h3 | h3
    · rw [if_pos h3] at hwt
      have h5 : nz row < N := by
        have : nz row ≠ N := fun hh => by
          have h6 : nz row = row.length := by rw [hh, h.len]
          have h7 := List.countP_eq_length.1 h6
          have h8 := h7 (row.getD e.2 0) (by
            rw [List.getD_eq_getElem?_getD, List.getElem?_eq_getElem hl]
            exact List.getElem_mem hl)
          rw [h3] at h8
          cases h8
        omega
      omega
    · have h4 : row.getD e.2 0 ≠ 0 := by omega
      rw [if_neg h4] at hwt
      omega

theorem RI.first (es : List (Nat × Nat)) (N i : Nat) : RI es N i (List.replicate N 0) := by
  have hr : ∀ k, k < N → (List.replicate N 0).getD k 0 = 0 := fun k hk => by simp [List.getD_eq_getElem?_getD, hk]
  refine ⟨by simp, fun k hk h => ?_, fun k hk => ?_⟩
  · rw [hr k hk] at h; omega
  · rw [hr k hk]; omega

theorem RI.last {es : List (Nat × Nat)} {N i : Nat} {row : List Nat} (h : RI es N i row) (hi : i < N) (hv : ∀ e ∈ es, e.1 < N ∧ e.2 < N) (hs : ∀ e ∈ es, ¬ better i row e) : IsS es N i row := by
  have key : ∀ n k, W es (n + 1) i k → k < N ∧ 0 < row.getD k 0 ∧ row.getD k 0 ≤ n + 1 := by
    intro n
    induction n with
    | zero =>
      rintro k ⟨c, hc, hck⟩
      have e1 : i = c := hc
      subst e1
      have hb := hs _ hck
      unfold better offer at hb
      simp only [if_true] at hb
      have := (hv _ hck).2
      simp only at this
      refine ⟨this, ?_⟩
      omega
    | succ n ih =>
      rintro k ⟨c, hc, hck⟩
      obtain ⟨h1, h2, h3⟩ := ih c hc
      have hb := hs _ hck
      have := (hv _ hck).2
      simp only at this
      refine ⟨this, ?_⟩
      unfold better offer at hb
      simp only [h2, if_true] at hb
      split at hb <;> omega
  refine ⟨h.len, ?_, ?_⟩
  · intro k hk h0 n hn
    have := (key n k hn).2.1
    omega
  · intro k hk h0
    exact ⟨h.walk k hk h0, fun n hn => (key n k hn).2.2⟩
end Go.Plain
/-
  Contracts: Distance, Reach, the reference's Steps.
-/
namespace Go.Ds
open Go.Proofs Go.Plain
variable {H : Heap}

theorem RdAt.noTuple {v : Value} {size : Nat} {cs : List Value} (h : RdAt H v size cs) : noTuple v = true := by
  rcases h with ⟨rfl, rfl⟩ | ⟨A, i, e, row, ty, rw, lo, ver, n, h1, h2, h3, h4, h5, h6, rfl⟩ <;> rfl

theorem distance_ok (N : Nat) (v : Value) (es : List (Nat × Nat)) (hv : Eg H v es) (hN : N ≤ 200) (he : es.length ≤ 1000) (hval : ∀ e ∈ es, e.1 < N ∧ e.2 < N) (s : Nat) (hs : s < N) :
    Fn Try.prog 26 [.agg #[I N, v], I s] H fun r H' => ∃ (d : List Int) (w : Value), r = .tuple #[w, I 0] ∧ IsD es N s d ∧ St Try.prog H H' [⟨w, 1, d.map (.int .i64)⟩] := by
  refine Fn.of_wp (fn := Try.f26) rfl rfl (by kernel_rfl) fun l hl => ?_
  have hn : l.length = 17 := by rw [hl]; rfl
  have g0 : get l 0 = .agg #[I N, v] := by rw [hl]; rfl
  have g1 : get l 1 = I s := by rw [hl]; rfl
  clear hl
  repeat first | (with_reducible first | refine Wp.seq ?_ | refine Wp.reg ?_ | refine Wp.block ?_ | refine Wp.skip ?_ | refine Wp.ret ?_ | refine Wp.exit ?_ | refine Wp.label ?_ | refine Wp.condG ?_) | simp (disch := omega) only [↓RP, RQ, TS, TR, ↓reduceIte, Nat.reduceEqDiff, Nat.reduceLT, Nat.reduceLeDiff, Int.reduceLT, Int.reduceLE, Int.reduceEq, Int.reduceAdd, Int.reduceSub, Int.reduceNeg, Int.reduceToNat, Nat.reduceAdd, Nat.reduceMul, Nat.reduceSub, reduceCtorEq, RC, Int.cast_ofNat_Int, hn, g0, g1]
  refine (St.refl _ H).eNew 2 [I N, v] rfl rfl (by simp [hv.one]; rfl) tS27 fun A H1 hS => ?_
  repeat first | (with_reducible first | refine Wp.seq ?_ | refine Wp.reg ?_ | refine Wp.block ?_ | refine Wp.skip ?_ | refine Wp.ret ?_ | refine Wp.exit ?_ | refine Wp.label ?_ | refine Wp.condG ?_) | simp (disch := omega) only [↓RP, RQ, TS, TR, ↓reduceIte, Nat.reduceEqDiff, Nat.reduceLT, Nat.reduceLeDiff, Int.reduceLT, Int.reduceLE, Int.reduceEq, Int.reduceAdd, Int.reduceSub, Int.reduceNeg, Int.reduceToNat, Nat.reduceAdd, Nat.reduceMul, Nat.reduceSub, reduceCtorEq, RC, Int.cast_ofNat_Int, hn, g0, g1, hS.ldA 0 rfl]
  refine hS.eSlice [I s] tP29 tF29 rfl rfl (by simp [Value.cells]) rfl rfl (by decide) (by decide) fun x H2 hS => ?_
  repeat first | (with_reducible first | refine Wp.seq ?_ | refine Wp.reg ?_ | refine Wp.block ?_ | refine Wp.skip ?_ | refine Wp.ret ?_ | refine Wp.exit ?_ | refine Wp.label ?_ | refine Wp.condG ?_) | simp (disch := omega) only [↓RP, RQ, TS, TR, ↓reduceIte, Nat.reduceEqDiff, Nat.reduceLT, Nat.reduceLeDiff, Int.reduceLT, Int.reduceLE, Int.reduceEq, Int.reduceAdd, Int.reduceSub, Int.reduceNeg, Int.reduceToNat, Nat.reduceAdd, Nat.reduceMul, Nat.reduceSub, reduceCtorEq, RC, Int.cast_ofNat_Int, hn, g0, g1, hS.ld 0 rfl]
  refine callFW_of (with_ok N v es (hS.base hv) hN he hval x [s] (hS.rd 1 rfl) (by simp) (by simpa using hs)) ?_
  rintro r H3 ⟨rfl, hS3⟩
  have hS := hS.trans hS3
  repeat first | (with_reducible first | refine Wp.seq ?_ | refine Wp.reg ?_ | refine Wp.block ?_ | refine Wp.skip ?_ | refine Wp.ret ?_ | refine Wp.exit ?_ | refine Wp.label ?_ | refine Wp.condG ?_) | simp (disch := omega) only [↓RP, RQ, TS, TR, ↓reduceIte, Nat.reduceEqDiff, Nat.reduceLT, Nat.reduceLeDiff, Int.reduceLT, Int.reduceLE, Int.reduceEq, Int.reduceAdd, Int.reduceSub, Int.reduceNeg, Int.reduceToNat, Nat.reduceAdd, Nat.reduceMul, Nat.reduceSub, reduceCtorEq, RC, Int.cast_ofNat_Int, hn, g0, g1, hS.ldA 0 rfl]
  refine callFW_of (distances_ok N v es (hS.base hv) hN he hval s 0 hs (Nat.zero_le _)) ?_
  rintro w H4 ⟨d, hd, _, hS4⟩
  have hS := hS.trans hS4
  have hw := hS.rd 2 rfl
  repeat first | (with_reducible first | refine Wp.seq ?_ | refine Wp.reg ?_ | refine Wp.block ?_ | refine Wp.skip ?_ | refine Wp.ret ?_ | refine Wp.exit ?_ | refine Wp.label ?_ | refine Wp.condG ?_) | simp (disch := omega) only [↓RP, RQ, TS, TR, ↓reduceIte, Nat.reduceEqDiff, Nat.reduceLT, Nat.reduceLeDiff, Int.reduceLT, Int.reduceLE, Int.reduceEq, Int.reduceAdd, Int.reduceSub, Int.reduceNeg, Int.reduceToNat, Nat.reduceAdd, Nat.reduceMul, Nat.reduceSub, reduceCtorEq, RC, Int.cast_ofNat_Int, hn, g0, g1, hw.noTuple]
  exact ⟨d, w, rfl, hd, hS.sub (by simp)⟩

theorem reach_ok (N : Nat) (v : Value) (es : List (Nat × Nat)) (hv : Eg H v es) (hN : N ≤ 200) (he : es.length ≤ 1000) (hval : ∀ e ∈ es, e.1 < N ∧ e.2 < N) (s : Nat) (hs : s < N) :
    Fn Try.prog 25 [.agg #[I N, v], I s] H fun r H' => ∃ (d : List Int) (w : Value), r = .tuple #[w, I 0] ∧ IsD es N s d ∧ St Try.prog H H' [⟨w, 1, nts ((List.range N).filter fun k => decide (0 ≤ d.getD k 0))⟩] := by
  refine Fn.of_wp (fn := Try.f25) rfl rfl (by kernel_rfl) fun l hl => ?_
  have hn : l.length = 33 := by rw [hl]; rfl
  have g0 : get l 0 = .agg #[I N, v] := by rw [hl]; rfl
  have g1 : get l 1 = I s := by rw [hl]; rfl
  clear hl
  repeat first | (with_reducible first | refine Wp.seq ?_ | refine Wp.reg ?_ | refine Wp.block ?_ | refine Wp.skip ?_ | refine Wp.ret ?_ | refine Wp.exit ?_ | refine Wp.label ?_ | refine Wp.condG ?_) | simp (disch := omega) only [↓RP, RQ, TS, TR, ↓reduceIte, Nat.reduceEqDiff, Nat.reduceLT, Nat.reduceLeDiff, Int.reduceLT, Int.reduceLE, Int.reduceEq, Int.reduceAdd, Int.reduceSub, Int.reduceNeg, Int.reduceToNat, Nat.reduceAdd, Nat.reduceMul, Nat.reduceSub, reduceCtorEq, RC, Int.cast_ofNat_Int, hn, g0, g1]
  refine (St.refl _ H).eNew 2 [I N, v] rfl rfl (by simp [hv.one]; rfl) tS27 fun A H1 hS => ?_
  repeat first | (with_reducible first | refine Wp.seq ?_ | refine Wp.reg ?_ | refine Wp.block ?_ | refine Wp.skip ?_ | refine Wp.ret ?_ | refine Wp.exit ?_ | refine Wp.label ?_ | refine Wp.condG ?_) | simp (disch := omega) only [↓RP, RQ, TS, TR, ↓reduceIte, Nat.reduceEqDiff, Nat.reduceLT, Nat.reduceLeDiff, Int.reduceLT, Int.reduceLE, Int.reduceEq, Int.reduceAdd, Int.reduceSub, Int.reduceNeg, Int.reduceToNat, Nat.reduceAdd, Nat.reduceMul, Nat.reduceSub, reduceCtorEq, RC, Int.cast_ofNat_Int, hn, g0, g1, hS.ldA 0 rfl]
  refine callFW_of (distance_ok N v es (hS.base hv) hN he hval s hs) ?_
  rintro r H2 ⟨d, w, rfl, hd, hS2⟩
  have hS := hS.trans hS2
  have hw : Sl1 H2 w (.int .i64) d := hS.rd 1 rfl
  repeat first | (with_reducible first | refine Wp.seq ?_ | refine Wp.reg ?_ | refine Wp.block ?_ | refine Wp.skip ?_ | refine Wp.ret ?_ | refine Wp.exit ?_ | refine Wp.label ?_ | refine Wp.condG ?_) | simp (disch := omega) only [↓RP, RQ, TS, TR, ↓reduceIte, Nat.reduceEqDiff, Nat.reduceLT, Nat.reduceLeDiff, Int.reduceLT, Int.reduceLE, Int.reduceEq, Int.reduceAdd, Int.reduceSub, Int.reduceNeg, Int.reduceToNat, Nat.reduceAdd, Nat.reduceMul, Nat.reduceSub, reduceCtorEq, RC, Int.cast_ofNat_Int, hn, g0, g1, hw.len]
  have hS := (hS.nil 0).front
  simp only [List.nil_append, List.cons_append, List.append_nil, List.set_cons_zero, List.set_cons_succ, setMany_cons, setMany_nil, Nat.zero_add, Nat.mul_one, Nat.add_zero] at hS
  refine Wp.loopN (fun n l H' => l.length = 33 ∧ get l 7 = I 0 ∧ get l 17 = w ∧ get l 18 = I d.length ∧ ∃ (i : Nat) (o : Value), n + i = N ∧ get l 19 = I i ∧ get l 8 = o ∧
    St Try.prog H H' [⟨o, 1, nts ((List.range i).filter fun k => decide (0 ≤ d.getD k 0))⟩, ⟨ptr A 0 2, 0, [I N, v]⟩, ⟨w, 1, d.map (.int .i64)⟩]) N ?_ ?_
  · repeat first | (with_reducible first | refine Wp.seq ?_ | refine Wp.reg ?_ | refine Wp.block ?_ | refine Wp.skip ?_ | refine Wp.ret ?_ | refine Wp.exit ?_ | refine Wp.label ?_ | refine Wp.condG ?_) | simp (disch := omega) only [↓RP, RQ, TS, TR, ↓reduceIte, Nat.reduceEqDiff, Nat.reduceLT, Nat.reduceLeDiff, Int.reduceLT, Int.reduceLE, Int.reduceEq, Int.reduceAdd, Int.reduceSub, Int.reduceNeg, Int.reduceToNat, Nat.reduceAdd, Nat.reduceMul, Nat.reduceSub, reduceCtorEq, RC, Int.cast_ofNat_Int, hn]
    exact ⟨0, _, rfl, rfl, rfl, hS⟩
  clear hS hS2 hn g0 g1 hw
  rintro n l H' ⟨hn, g7, g17, g18, i, o, hi, g19, g8, hS⟩
  have hw : Sl1 H' w (.int .i64) d := hS.rd 2 rfl
  have hdl := hd.len
  repeat first | (with_reducible first | refine Wp.seq ?_ | refine Wp.reg ?_ | refine Wp.block ?_ | refine Wp.skip ?_ | refine Wp.ret ?_ | refine Wp.exit ?_ | refine Wp.label ?_ | refine Wp.condG ?_) | simp (disch := omega) only [↓RP, RQ, TS, TR, ↓reduceIte, Nat.reduceEqDiff, Nat.reduceLT, Nat.reduceLeDiff, Int.reduceLT, Int.reduceLE, Int.reduceEq, Int.reduceAdd, Int.reduceSub, Int.reduceNeg, Int.reduceToNat, Nat.reduceAdd, Nat.reduceMul, Nat.reduceSub, reduceCtorEq, RC, Int.cast_ofNat_Int, hn, g7, g17, g18, g19, g8]
  refine condW_split (fun h => ?_) (fun h => ?_)
  · repeat first | (with_reducible first | refine Wp.seq ?_ | refine Wp.reg ?_ | refine Wp.block ?_ | refine Wp.skip ?_ | refine Wp.ret ?_ | refine Wp.exit ?_ | refine Wp.label ?_ | refine Wp.condG ?_) | simp (disch := omega) only [↓RP, RQ, TS, TR, ↓reduceIte, Nat.reduceEqDiff, Nat.reduceLT, Nat.reduceLeDiff, Int.reduceLT, Int.reduceLE, Int.reduceEq, Int.reduceAdd, Int.reduceSub, Int.reduceNeg, Int.reduceToNat, Nat.reduceAdd, Nat.reduceMul, Nat.reduceSub, reduceCtorEq, RC, Int.cast_ofNat_Int, hn, g7, g17, g18, g19, g8, hw.idx, hw.ld 0]
    refine condW_split (fun h2 => ?_) (fun h2 => ?_)
    · repeat first | (with_reducible first | refine Wp.seq ?_ | refine Wp.reg ?_ | refine Wp.block ?_ | refine Wp.skip ?_ | refine Wp.ret ?_ | refine Wp.exit ?_ | refine Wp.label ?_ | refine Wp.condG ?_) | simp (disch := omega) only [↓RP, RQ, TS, TR, ↓reduceIte, Nat.reduceEqDiff, Nat.reduceLT, Nat.reduceLeDiff, Int.reduceLT, Int.reduceLE, Int.reduceEq, Int.reduceAdd, Int.reduceSub, Int.reduceNeg, Int.reduceToNat, Nat.reduceAdd, Nat.reduceMul, Nat.reduceSub, reduceCtorEq, RC, Int.cast_ofNat_Int, hn, g7, g17, g18, g19, g8]
      refine hS.eSlice [I i] tP29 tF29 rfl rfl (by simp [Value.cells]) rfl rfl (by decide) (by decide) fun x H2 hS => ?_
      repeat first | (with_reducible first | refine Wp.seq ?_ | refine Wp.reg ?_ | refine Wp.block ?_ | refine Wp.skip ?_ | refine Wp.ret ?_ | refine Wp.exit ?_ | refine Wp.label ?_ | refine Wp.condG ?_) | simp (disch := omega) only [↓RP, RQ, TS, TR, ↓reduceIte, Nat.reduceEqDiff, Nat.reduceLT, Nat.reduceLeDiff, Int.reduceLT, Int.reduceLE, Int.reduceEq, Int.reduceAdd, Int.reduceSub, Int.reduceNeg, Int.reduceToNat, Nat.reduceAdd, Nat.reduceMul, Nat.reduceSub, reduceCtorEq, RC, Int.cast_ofNat_Int, hn, g7, g17, g18, g19, g8]
      have hlen : ((List.range i).filter fun k => decide (0 ≤ d.getD k 0)).length ≤ i := by
        have := List.length_filter_le (fun k => decide (0 ≤ d.getD k 0)) (List.range i)
        simpa using this
      refine hS.eAppend 0 rfl (hS.rd 3 rfl) tP29 (by simp only [nts, List.length_map, List.length_cons, List.length_nil]; omega) fun o' H3 hS => ?_
      simp only [List.nil_append, List.cons_append, List.append_nil, List.set_cons_zero, List.set_cons_succ, setMany_cons, setMany_nil, Nat.zero_add, Nat.mul_one, Nat.add_zero] at hS
      repeat first | (with_reducible first | refine Wp.seq ?_ | refine Wp.reg ?_ | refine Wp.block ?_ | refine Wp.skip ?_ | refine Wp.ret ?_ | refine Wp.exit ?_ | refine Wp.label ?_ | refine Wp.condG ?_) | simp (disch := omega) only [↓RP, RQ, TS, TR, ↓reduceIte, Nat.reduceEqDiff, Nat.reduceLT, Nat.reduceLeDiff, Int.reduceLT, Int.reduceLE, Int.reduceEq, Int.reduceAdd, Int.reduceSub, Int.reduceNeg, Int.reduceToNat, Nat.reduceAdd, Nat.reduceMul, Nat.reduceSub, reduceCtorEq, RC, Int.cast_ofNat_Int, hn, g7, g17, g18, g19, g8, wrap_fit]
      refine ⟨n - 1, by omega, i + 1, o', by omega, rfl, rfl, ?_⟩
      rw [List.range_succ, List.filter_append]
      have e : [i].filter (fun k => decide (0 ≤ d.getD k 0)) = [i] := by simp only [List.filter_cons, List.filter_nil, decide_eq_true h2, if_true]
      rw [e, nts, List.map_append]
      exact hS.sub (by simp)
    · repeat first | (with_reducible first | refine Wp.seq ?_ | refine Wp.reg ?_ | refine Wp.block ?_ | refine Wp.skip ?_ | refine Wp.ret ?_ | refine Wp.exit ?_ | refine Wp.label ?_ | refine Wp.condG ?_) | simp (disch := omega) only [↓RP, RQ, TS, TR, ↓reduceIte, Nat.reduceEqDiff, Nat.reduceLT, Nat.reduceLeDiff, Int.reduceLT, Int.reduceLE, Int.reduceEq, Int.reduceAdd, Int.reduceSub, Int.reduceNeg, Int.reduceToNat, Nat.reduceAdd, Nat.reduceMul, Nat.reduceSub, reduceCtorEq, RC, Int.cast_ofNat_Int, hn, g7, g17, g18, g19, g8, wrap_fit]
      refine ⟨n - 1, by omega, i + 1, o, by omega, rfl, rfl, ?_⟩
      rw [List.range_succ, List.filter_append]
      have e : [i].filter (fun k => decide (0 ≤ d.getD k 0)) = [] := by simp only [List.filter_cons, List.filter_nil, decide_eq_false h2]; rfl
      rw [e, List.append_nil]
      exact hS
  · have ho := hS.rd 0 rfl
    repeat first | (with_reducible first | refine Wp.seq ?_ | refine Wp.reg ?_ | refine Wp.block ?_ | refine Wp.skip ?_ | refine Wp.ret ?_ | refine Wp.exit ?_ | refine Wp.label ?_ | refine Wp.condG ?_) | simp (disch := omega) only [↓RP, RQ, TS, TR, ↓reduceIte, Nat.reduceEqDiff, Nat.reduceLT, Nat.reduceLeDiff, Int.reduceLT, Int.reduceLE, Int.reduceEq, Int.reduceAdd, Int.reduceSub, Int.reduceNeg, Int.reduceToNat, Nat.reduceAdd, Nat.reduceMul, Nat.reduceSub, reduceCtorEq, RC, Int.cast_ofNat_Int, hn, g7, g17, g18, g19, g8, ho.noTuple]
    have e : i = N := by omega
    subst e
    exact ⟨d, o, rfl, hd, hS.sub (by simp)⟩
end Go.Ds
/-
  Ds: ranging over a function, in the calculus that goes from the end to the beginning.
-/
namespace Go.Ds
section
variable {P : Program} {B : Base} {H : Heap}

/-- As 'Fn', with the run of the body. -/
def FnS (P : Program) (k : FuncId) (args : List Value) (H : Heap) (R : Value → Heap → Prop) : Prop :=
  ∃ fn c e l1 H1 v, P.funcs[k]? = some fn ∧ fn.body = some c ∧ (fn.name == "runtime.NumGoroutine") = false ∧ Sim P c (args ++ List.replicate (fn.ntmps - args.length) undef) H e l1 H1 ∧ (e = .normal ∨ e = .ret) ∧ resultsD P fn l1 H1 = some v ∧ R v H1

theorem FnS.of_wp {k : FuncId} {fn : Func} {c : Code} {args : List Value} {R : Value → Heap → Prop} (hf : P.funcs[k]? = some fn) (hb : fn.body = some c) (hn : (fn.name == "runtime.NumGoroutine") = false)
    (h : ∀ l, l = args ++ List.replicate (fn.ntmps - args.length) undef → Wp P c l H (endQ P fn R)) : FnS P k args H R := by
  obtain ⟨e, l1, H1, h1, h2, h3⟩ := h _ rfl
  unfold bindV at h3
  split at h3
  · rename_i v hv; exact ⟨fn, c, e, l1, H1, v, hf, hb, hn, h1, h2, hv, h3⟩
  · exact h3.elim

theorem FnS.fn {k : FuncId} {args : List Value} {R : Value → Heap → Prop} (h : FnS P k args H R) : Fn P k args H R := by
  obtain ⟨fn, c, e, l1, H1, v, hf, hb, hn, h1, h2, h3, h4⟩ := h
  exact ⟨⟨fn, hf, by simp [hb], hn⟩, v, H1, .of_sim hf hb hn h1 h2 h3, h4⟩

theorem FnS.mono {k : FuncId} {args : List Value} {R R' : Value → Heap → Prop} (h : FnS P k args H R) (hr : ∀ v H1, R v H1 → R' v H1) : FnS P k args H R' := by
  obtain ⟨fn, c, e, l1, H1, v, hf, hb, hn, h1, h2, h3, h4⟩ := h
  exact ⟨fn, c, e, l1, H1, v, hf, hb, hn, h1, h2, h3, hr _ _ h4⟩

/-- The record of a loop over a function, as it begins. -/
def loop0 (l : List Value) (ps : Array Tmp) (assign body : Code) : Loop := { state := .ready, pending := none, fn := 0, tmps := l.toArray, params := ps, assign := assign, body := body, defers := 0 }

/-- What is owed behind the iterator's call. -/
def afterQ (P : Program) (l : List Value) (L : Nat) (Q : Out) : Value → Heap → Prop := fun _ H2 => ∃ r, hget H2 L = some (.loop r) ∧ r.state ≠ .busy ∧
  (r.pending = none → Q .normal l (hset H2 L (.loop { r with state := .exhausted }))) ∧ ∀ c, r.pending = some c → Wp P c l (hset H2 L (.loop { r with state := .exhausted })) Q

theorem Wp.range {g : Operand} {ps : Array Tmp} {assign body : Code} {l : List Value} {Q : Out} {k : FuncId} {first captured : List Value} (hgo : operandOk g = true) (hg : ev l g = .func (.func k) first.toArray captured.toArray)
    (h : FnS P k (first ++ [.func (.yield H.length) #[] #[]] ++ captured) (H.cons (.loop (loop0 l ps assign body))) (afterQ P l H.length Q)) : Wp P (.rangeFunc g ps assign body) l H Q := by
  classical
  obtain ⟨fn, c, e, l1, H2, v, hf, hb, hn, hs, he, hres, r, hr, hnb, hp⟩ := h
  let sl := (first ++ [Value.func (.yield H.length) #[] #[]] ++ captured) ++ List.replicate (fn.ntmps - (first ++ [Value.func (.yield H.length) #[] #[]] ++ captured).length) undef
  let H1 := H.cons (.loop (loop0 l ps assign body))
  let ex : Run := fun c' l' H' => if c' = c ∧ l' = sl ∧ H' = H1 then some (e, l1, H2) else none
  have hex : ∀ c l H e l' H', ex c l H = some (e, l', H') → Sim P c l H e l' H' := by
    intro c' l' H' e' l2 H3 hh
    simp only [ex] at hh
    split at hh
    · rename_i h1
      obtain ⟨rfl, rfl, rfl⟩ := h1
      injection hh with hh
      injection hh with h1 hh
      injection hh with h2 h3
      subst h1 h2 h3
      exact hs
    · cases hh
  have hc : enterD P ex (ev l g) H.length (H.cons (.loop { state := .ready, pending := none, fn := 0, tmps := l.toArray, params := ps, assign, body, defers := 0 })) = some (v, H2) := by
    unfold enterD
    rw [hg]
    show callF P ex k (first ++ [Value.func (.yield H.length) #[] #[]] ++ captured) H1 = some (v, H2)
    unfold callF
    rw [hf]
    have h1 : ex c sl H1 = some (e, l1, H2) := by simp [ex]
    simp only [hb, hn, Bool.false_eq_true, if_false]
    rw [show ex c ((first ++ [Value.func (.yield H.length) #[] #[]] ++ captured) ++ List.replicate (fn.ntmps - (first ++ [Value.func (.yield H.length) #[] #[]] ++ captured).length) undef) H1 = some (e, l1, H2) from h1]
    rcases he with rfl | rfl <;> simp [hres]
  by_cases hpend : r.pending = none
  · exact ⟨.normal, l, _, range_ok hex hc hgo hr hnb (fun _ => ⟨rfl, rfl, rfl⟩) (fun c h => by rw [hpend] at h; cases h), hp.1 hpend⟩
  · obtain ⟨c', hc'⟩ := Option.ne_none_iff_exists'.1 hpend
    obtain ⟨e', l', H', hs', hq⟩ := hp.2 c' hc'
    exact ⟨e', l', H', range_ok hex hc hgo hr hnb (fun h => absurd h hpend) (fun c h => by
      rw [hc'] at h
      obtain rfl := Option.some.inj h
      exact hs'), hq⟩

/-- How a round ends. -/
def jumpOf : Ex → Option Code
  | .normal => none
  | .ret => some .ret
  | .exit id => some (.exit id)

theorem callW_yield {L : Nat} {args : List Value} {K : Value → Heap → Prop} {r : Loop} (hg : hget H L = some (.loop r)) (hn : r.params.size = args.length) (hst : r.state = .ready)
    (h : Wp P r.assign ((r.params.toList.zip args).foldl (fun t (p, v) => t.set p v) r.tmps.toList) H fun e l1 H1 => e = .normal ∧ ∃ r1, hget H1 L = some (.loop r1) ∧ r1.state = .ready ∧
      Wp P r.body l1 (hset H1 L (.loop { r1 with state := .busy })) fun e _ H2 => ∃ r2, hget H2 L = some (.loop r2) ∧
        K (.bool (jumpOf e).isNone) (hset H2 L (.loop { r2 with state := if (jumpOf e).isNone then .ready else .done, pending := jumpOf e }))) :
    callW P (.func (.yield L) #[] #[]) args H K := by
  classical
  obtain ⟨e1, l1, H1, hs1, rfl, r1, hg1, hst1, e2, l2, H2, hs2, r2, hg2, hk⟩ := h
  refine ⟨_, _, ?_, hk⟩
  let sl := (r.params.toList.zip args).foldl (fun t (p, v) => t.set p v) r.tmps.toList
  let Hb := hset H1 L (.loop { r1 with state := .busy })
  let ex : Run := fun c' l' H' => if c' = r.assign ∧ l' = sl ∧ H' = H then some (.normal, l1, H1) else if c' = r.body ∧ l' = l1 ∧ H' = Hb then some (e2, l2, H2) else none
  have hex : ∀ c l H e l' H', ex c l H = some (e, l', H') → Sim P c l H e l' H' := by
    intro c' l' H' e' l3 H3 hh
    simp only [ex] at hh
    split at hh
    · rename_i h1
      obtain ⟨rfl, rfl, rfl⟩ := h1
      injection hh with hh
      injection hh with h1 hh
      injection hh with h2 h3
      subst h1 h2 h3
      exact hs1
    · split at hh
      · rename_i h1
        obtain ⟨rfl, rfl, rfl⟩ := h1
        injection hh with hh
        injection hh with h1 hh
        injection hh with h2 h3
        subst h1 h2 h3
        exact hs2
      · cases hh
  have hbH : ¬ Hb = H := by
    intro hh
    have h1 : hget Hb L = some (.loop { r1 with state := .busy }) := hget_hset_same _ (hget_lt hg1)
    rw [hh, hg] at h1
    injection h1 with h1
    injection h1 with h1
    have h2 : r.state = .busy := by rw [h1]
    rw [hst] at h2
    cases h2
  have hc : roundD ex L args H = some (.bool (jumpOf e2).isNone, hset H2 L (.loop { r2 with state := if (jumpOf e2).isNone then .ready else .done, pending := jumpOf e2 })) := by
    unfold roundD
    rw [hg]
    simp only
    rw [if_pos ⟨hn, hst⟩]
    have h1 : ex r.assign sl H = some (.normal, l1, H1) := by simp [ex]
    have h2 : ex r.body l1 Hb = some (e2, l2, H2) := by
      simp only [ex]
      rw [if_neg (fun hh => hbH hh.2.2), if_pos ⟨trivial, trivial, trivial⟩]
    rw [show ex r.assign ((r.params.toList.zip args).foldl (fun t (p, v) => t.set p v) r.tmps.toList) H = some (.normal, l1, H1) from h1]
    simp only [hg1]
    rw [if_pos hst1]
    rw [show ex r.body l1 (hset H1 L (.loop { r1 with state := .busy })) = some (e2, l2, H2) from h2]
    simp only [hg2]
    cases e2 <;> rfl
  exact fun ρ w p args' k hr hp ha => round_ok hex hc hr hp ha k

/-! ### A loop's record beside what is ours -/
structure Lp (P : Program) (B : Base) (L : Nat) (r : Loop) (H : Heap) (os : List Ob) : Prop where
  st : St P B H os
  get : hget H L = some (.loop r)
  lo : B.H.length ≤ L
  ne : ∀ o ∈ os, blk o.v ≠ some L

theorem hget_hset {H : Heap} {A : Nat} {b c : Blk} (h : hget H A = some c) : hget (hset H A b) A = some b := hget_hset_same b (hget_lt h)

theorem Lp.enter {os : List Ob} (hS : St P B H os) (r : Loop) : Lp P B H.length r (H.cons (.loop r)) os where
  st := by
    have h1 : St P H (H.cons (.loop r)) [] := ⟨by rw [cons_eq]; exact Nat.le_succ _, fun B hB _ => hget_cons_old _ hB, by simp, by simp, .nil⟩
    simpa using hS.trans h1
  get := hget_cons_new H _
  lo := hS.len
  ne o ho hb := by
    have := (hS.own o ho).lt hb
    omega

theorem Lp.ext {L : Nat} {r : Loop} {H2 : Heap} {os os2 : List Ob} (h : Lp P B L r H os) (h2 : St P H H2 os2) : Lp P B L r H2 (os ++ os2) where
  st := h.st.trans h2
  get := by rw [h2.keep L (hget_lt h.get)]; exact h.get
  lo := h.lo
  ne o ho hb := by
    rcases List.mem_append.1 ho with ho | ho
    · exact h.ne o ho hb
    · have hl := hget_lt h.get
      rcases h2.new o ho L hb with h3 | h3
      · have h3 : H.length ≤ L := h3
        omega
      · exact h3

theorem Lp.sub {L : Nat} {r : Loop} {os os' : List Ob} (h : Lp P B L r H os) (hs : os'.Sublist os) : Lp P B L r H os' := ⟨h.st.sub hs, h.get, h.lo, fun o ho => h.ne o (hs.subset ho)⟩

theorem Lp.set {L : Nat} {r : Loop} {os : List Ob} (h : Lp P B L r H os) (hX : ¬ B.X L) (r' : Loop) : Lp P B L r' (hset H L (.loop r')) os where
  st := by
    refine ⟨by rw [length_hset]; exact h.st.len, ?_, ?_, h.st.new, h.st.sep⟩
    · intro A hA hXA
      rw [hget_hset_ne _ (by have := h.lo; omega)]
      exact h.st.old A hA hXA
    · intro o ho
      exact (h.st.own o ho).keep fun A hA => hget_hset_ne _ (fun hh => h.ne o ho (by rw [hA, hh]))
  get := hget_hset h.get
  lo := h.lo
  ne := h.ne

theorem Lp.body {L : Nat} {r : Loop} {H2 : Heap} {os os2 : List Ob} (h : Lp P B L r H os) (h2 : St P ⟨H, blksOf os⟩ H2 os2) : Lp P B L r H2 os2 where
  st := h.st.unbase h2
  get := by rw [h2.other (hget_lt h.get) h.ne]; exact h.get
  lo := h.lo
  ne o ho hb := by
    have hl := hget_lt h.get
    rcases h2.new o ho L hb with h3 | ⟨o', ho', hb'⟩
    · have h3 : H.length ≤ L := h3
      omega
    · exact h.ne o' ho' hb'

end
end Go.Ds
/-
  Plain graphs: the first shortest way, edge by edge.
-/
namespace Go.Plain

/-- All edges turned round. -/
def tE (es : List (Nat × Nat)) : List (Nat × Nat) := es.map fun e => (e.2, e.1)

/-- An edge that brings one nearer. -/
def mt (d : List Int) (m a : Nat) (e : Nat × Nat) : Bool := e.1 == a && d.getD e.2 0 == (m : Int)

/-- The first edge from an index on that brings one nearer. -/
def pk (es : List (Nat × Nat)) (first : Nat) (d : List Int) (m a : Nat) : Nat := first + (es.drop first).findIdx (mt d m a)

def pF (es : List (Nat × Nat)) (first : Nat) (d : List Int) : Nat → Nat → List Nat
  | 0, _ => []
  | m + 1, a => pk es first d m a :: pF es first d m (es.getD (pk es first d m a) (0, 0)).2

theorem mt_iff (d : List Int) (m a : Nat) (e : Nat × Nat) : mt d m a e = true ↔ e.1 = a ∧ d.getD e.2 0 = (m : Int) := by simp [mt]

theorem getD_drop {α : Type} (l : List α) (n i : Nat) (d : α) : (l.drop n).getD i d = l.getD (n + i) d := by simp [List.getD_eq_getElem?_getD]

theorem pk_spec (es : List (Nat × Nat)) (first : Nat) (d : List Int) (m a : Nat) (h : ∃ j, first ≤ j ∧ j < es.length ∧ mt d m a (es.getD j (0, 0)) = true) :
    first ≤ pk es first d m a ∧ pk es first d m a < es.length ∧ mt d m a (es.getD (pk es first d m a) (0, 0)) = true ∧ ∀ i, first ≤ i → i < pk es first d m a → mt d m a (es.getD i (0, 0)) = false := by
  obtain ⟨j, h1, h2, h3⟩ := h
  have hlt : (es.drop first).findIdx (mt d m a) < (es.drop first).length := by
    apply List.findIdx_lt_length_of_exists
    refine ⟨es.getD j (0, 0), ?_, h3⟩
    rw [show j = first + (j - first) from by omega, ← getD_drop]
    have hl : j - first < (es.drop first).length := by simp; omega
    rw [List.getD_eq_getElem?_getD, List.getElem?_eq_getElem hl]
    exact List.getElem_mem hl
  have hlen : (es.drop first).length = es.length - first := List.length_drop
  refine ⟨Nat.le_add_right _ _, by unfold pk; omega, ?_, ?_⟩
  · have := List.findIdx_getElem (w := hlt)
    unfold pk
    rw [← getD_drop, List.getD_eq_getElem?_getD, List.getElem?_eq_getElem hlt]
    exact this
  · intro i hi1 hi2
    have hi3 : i - first < (es.drop first).findIdx (mt d m a) := by unfold pk at hi2; omega
    have := List.not_of_lt_findIdx hi3
    rw [show i = first + (i - first) from by omega, ← getD_drop, List.getD_eq_getElem?_getD, List.getElem?_eq_getElem (by omega)]
    simpa using this

theorem pk_eq (es : List (Nat × Nat)) (first : Nat) (d : List Int) (m a j : Nat) (h1 : first ≤ j) (h2 : j < es.length) (h3 : mt d m a (es.getD j (0, 0)) = true) (h4 : ∀ i, first ≤ i → i < j → mt d m a (es.getD i (0, 0)) = false) : pk es first d m a = j := by
  obtain ⟨a1, a2, a3, a4⟩ := pk_spec es first d m a ⟨j, h1, h2, h3⟩
  rcases Nat.lt_trichotomy (pk es first d m a) j with h | h | h
  · rw [h4 _ a1 h] at a3; cases a3
  · exact h
  · rw [a4 j h1 h] at h3; cases h3

theorem mem_tE {es : List (Nat × Nat)} {a b : Nat} : (a, b) ∈ tE es ↔ (b, a) ∈ es := by
  unfold tE
  rw [List.mem_map]
  constructor
  · rintro ⟨⟨x, y⟩, h, e⟩
    simp only [Prod.mk.injEq] at e
    obtain ⟨rfl, rfl⟩ := e
    exact h
  · exact fun h => ⟨(b, a), h, rfl⟩

theorem tE_length (es : List (Nat × Nat)) : (tE es).length = es.length := by simp [tE]
theorem tE_drop (es : List (Nat × Nat)) (n : Nat) : (tE es).drop n = tE (es.drop n) := by simp [tE, List.map_drop]
theorem tE_val {es : List (Nat × Nat)} {N : Nat} (h : ∀ e ∈ es, e.1 < N ∧ e.2 < N) : ∀ e ∈ tE es, e.1 < N ∧ e.2 < N := by
  rintro ⟨a, b⟩ he
  have := h _ (mem_tE.1 he)
  exact ⟨this.2, this.1⟩

/-- From a node that is m + 1 away an edge leads to one that is m away. -/
theorem nearer {es : List (Nat × Nat)} {N t first : Nat} {d : List Int} (hv : ∀ e ∈ es, e.1 < N ∧ e.2 < N) (hd : IsD (tE (es.drop first)) N t d) (a m : Nat) (ha : a < N) (hm : d.getD a 0 = (m + 1 : Nat)) :
    ∃ j, first ≤ j ∧ j < es.length ∧ mt d m a (es.getD j (0, 0)) = true := by
  have h1 := (hd.pos a ha (by omega)).1
  rw [hm] at h1
  obtain ⟨c, hc, he⟩ : ∃ c, W (tE (es.drop first)) m t c ∧ (c, a) ∈ tE (es.drop first) := h1
  have he := mem_tE.1 he
  have hcN : c < N := (hv _ (List.mem_of_mem_drop he)).2
  have hdc : d.getD c 0 = (m : Int) := by
    by_cases h0 : d.getD c 0 < 0
    · exact ((hd.neg c hcN h0).2 m hc).elim
    · have h2 := hd.pos c hcN (by omega)
      have h3 := h2.2 m hc
      have h4 := (hd.pos a ha (by omega)).2 ((d.getD c 0).toNat + 1) ⟨c, h2.1, mem_tE.2 he⟩
      omega
  obtain ⟨i, hi, hie⟩ := List.getElem_of_mem he
  have hi' : i < es.length - first := by simpa using hi
  refine ⟨first + i, by omega, by omega, ?_⟩
  rw [← getD_drop, List.getD_eq_getElem?_getD, List.getElem?_eq_getElem hi, hie]
  exact (mt_iff ..).2 ⟨rfl, hdc⟩
end Go.Plain
/-
  Contracts: turned, out.
-/
namespace Go.Ds
open Go.Proofs Go.Plain
variable {H : Heap}



theorem turned_ok (N : Nat) (v : Value) (es : List (Nat × Nat)) (hv : Eg H v es) (he : es.length ≤ 1000) : Fn Try.prog 44 [.agg #[I N, v]] H fun r H' => ∃ w, r = .agg #[I N, w] ∧ Eg H' w (tE es) ∧ St Try.prog H H' [] := by
  refine Fn.of_wp (fn := Try.f44) rfl rfl (by kernel_rfl) fun l hl => ?_
  have hn : l.length = 28 := by rw [hl]; rfl
  have g0 : get l 0 = .agg #[I N, v] := by rw [hl]; rfl
  clear hl
  repeat first | (with_reducible first | refine Wp.seq ?_ | refine Wp.reg ?_ | refine Wp.block ?_ | refine Wp.skip ?_ | refine Wp.ret ?_ | refine Wp.exit ?_ | refine Wp.label ?_ | refine Wp.condG ?_) | simp (disch := omega) only [↓RP, RQ, TS, TR, ↓reduceIte, Nat.reduceEqDiff, Nat.reduceLT, Nat.reduceLeDiff, Int.reduceLT, Int.reduceLE, Int.reduceEq, Int.reduceAdd, Int.reduceSub, Int.reduceNeg, Int.reduceToNat, Nat.reduceAdd, Nat.reduceMul, Nat.reduceSub, reduceCtorEq, RC, Int.cast_ofNat_Int, hn, g0]
  refine (St.refl _ H).eNew 2 [I N, v] rfl rfl (by simp [hv.one]; rfl) tS27 fun A H1 hS => ?_
  repeat first | (with_reducible first | refine Wp.seq ?_ | refine Wp.reg ?_ | refine Wp.block ?_ | refine Wp.skip ?_ | refine Wp.ret ?_ | refine Wp.exit ?_ | refine Wp.label ?_ | refine Wp.condG ?_) | simp (disch := omega) only [↓RP, RQ, TS, TR, ↓reduceIte, Nat.reduceEqDiff, Nat.reduceLT, Nat.reduceLeDiff, Int.reduceLT, Int.reduceLE, Int.reduceEq, Int.reduceAdd, Int.reduceSub, Int.reduceNeg, Int.reduceToNat, Nat.reduceAdd, Nat.reduceMul, Nat.reduceSub, reduceCtorEq, RC, Int.cast_ofNat_Int, hn, g0]
  refine hS.eNew 2 [I 0, .slice none 0 0] rfl rfl rfl tS27 fun B H2 hS => ?_
  repeat first | (with_reducible first | refine Wp.seq ?_ | refine Wp.reg ?_ | refine Wp.block ?_ | refine Wp.skip ?_ | refine Wp.ret ?_ | refine Wp.exit ?_ | refine Wp.label ?_ | refine Wp.condG ?_) | simp (disch := omega) only [↓RP, RQ, TS, TR, ↓reduceIte, Nat.reduceEqDiff, Nat.reduceLT, Nat.reduceLeDiff, Int.reduceLT, Int.reduceLE, Int.reduceEq, Int.reduceAdd, Int.reduceSub, Int.reduceNeg, Int.reduceToNat, Nat.reduceAdd, Nat.reduceMul, Nat.reduceSub, reduceCtorEq, RC, Int.cast_ofNat_Int, hn, g0, hS.ld 0 rfl]
  refine hS.eNew 2 [I 0, .slice none 0 0] rfl rfl rfl tS27 fun C H3 hS => ?_
  repeat first | (with_reducible first | refine Wp.seq ?_ | refine Wp.reg ?_ | refine Wp.block ?_ | refine Wp.skip ?_ | refine Wp.ret ?_ | refine Wp.exit ?_ | refine Wp.label ?_ | refine Wp.condG ?_) | simp (disch := omega) only [↓RP, RQ, TS, TR, ↓reduceIte, Nat.reduceEqDiff, Nat.reduceLT, Nat.reduceLeDiff, Int.reduceLT, Int.reduceLE, Int.reduceEq, Int.reduceAdd, Int.reduceSub, Int.reduceNeg, Int.reduceToNat, Nat.reduceAdd, Nat.reduceMul, Nat.reduceSub, reduceCtorEq, RC, Int.cast_ofNat_Int, hn, g0]
  refine hS.eStore 2 rfl [_, _] rfl rfl tS27 (by simp) fun H4 hS => ?_
  have hS := hS.nil 1
  simp only [List.nil_append, List.cons_append, List.append_nil, List.set_cons_zero, List.set_cons_succ, setMany_cons, setMany_nil, Nat.zero_add, Nat.mul_one, Nat.add_zero] at hS
  have hv1 : Sl2 H4 v _ _ es := hS.base hv
  repeat first | (with_reducible first | refine Wp.seq ?_ | refine Wp.reg ?_ | refine Wp.block ?_ | refine Wp.skip ?_ | refine Wp.ret ?_ | refine Wp.exit ?_ | refine Wp.label ?_ | refine Wp.condG ?_) | simp (disch := omega) only [↓RP, RQ, TS, TR, ↓reduceIte, Nat.reduceEqDiff, Nat.reduceLT, Nat.reduceLeDiff, Int.reduceLT, Int.reduceLE, Int.reduceEq, Int.reduceAdd, Int.reduceSub, Int.reduceNeg, Int.reduceToNat, Nat.reduceAdd, Nat.reduceMul, Nat.reduceSub, reduceCtorEq, RC, Int.cast_ofNat_Int, hn, g0, hS.ld 0 rfl, hv1.len]
  refine Wp.loopN (fun n l H' => l.length = 28 ∧ get l 2 = ptr B 0 2 ∧ get l 3 = ptr C 0 2 ∧ get l 10 = v ∧ get l 11 = I es.length ∧ ∃ (i : Nat) (w : Value), n + i = es.length ∧ get l 12 = I i ∧
    St Try.prog H H' [⟨ptr A 0 2, 0, [I N, v]⟩, ⟨ptr B 0 2, 0, [I 0, .slice none 0 0]⟩, ⟨ptr C 0 2, 0, [I N, w]⟩, ⟨w, 2, eg (tE (es.take i))⟩]) es.length ?_ ?_
  · repeat first | (with_reducible first | refine Wp.seq ?_ | refine Wp.reg ?_ | refine Wp.block ?_ | refine Wp.skip ?_ | refine Wp.ret ?_ | refine Wp.exit ?_ | refine Wp.label ?_ | refine Wp.condG ?_) | simp (disch := omega) only [↓RP, RQ, TS, TR, ↓reduceIte, Nat.reduceEqDiff, Nat.reduceLT, Nat.reduceLeDiff, Int.reduceLT, Int.reduceLE, Int.reduceEq, Int.reduceAdd, Int.reduceSub, Int.reduceNeg, Int.reduceToNat, Nat.reduceAdd, Nat.reduceMul, Nat.reduceSub, reduceCtorEq, RC, Int.cast_ofNat_Int, hn, g0]
    exact ⟨0, _, rfl, rfl, hS⟩
  clear hS hn g0 hv1
  rintro n l H' ⟨hn, g2, g3, g10, g11, i, w, hi, g12, hS⟩
  have hv1 : Sl2 H' v _ _ es := hS.base hv
  repeat first | (with_reducible first | refine Wp.seq ?_ | refine Wp.reg ?_ | refine Wp.block ?_ | refine Wp.skip ?_ | refine Wp.ret ?_ | refine Wp.exit ?_ | refine Wp.label ?_ | refine Wp.condG ?_) | simp (disch := omega) only [↓RP, RQ, TS, TR, ↓reduceIte, Nat.reduceEqDiff, Nat.reduceLT, Nat.reduceLeDiff, Int.reduceLT, Int.reduceLE, Int.reduceEq, Int.reduceAdd, Int.reduceSub, Int.reduceNeg, Int.reduceToNat, Nat.reduceAdd, Nat.reduceMul, Nat.reduceSub, reduceCtorEq, RC, Int.cast_ofNat_Int, hn, g2, g3, g10, g11, g12]
  refine condW_split (fun h => ?_) (fun h => ?_)
  · repeat first | (with_reducible first | refine Wp.seq ?_ | refine Wp.reg ?_ | refine Wp.block ?_ | refine Wp.skip ?_ | refine Wp.ret ?_ | refine Wp.exit ?_ | refine Wp.label ?_ | refine Wp.condG ?_) | simp (disch := omega) only [↓RP, RQ, TS, TR, ↓reduceIte, Nat.reduceEqDiff, Nat.reduceLT, Nat.reduceLeDiff, Int.reduceLT, Int.reduceLE, Int.reduceEq, Int.reduceAdd, Int.reduceSub, Int.reduceNeg, Int.reduceToNat, Nat.reduceAdd, Nat.reduceMul, Nat.reduceSub, reduceCtorEq, RC, Int.cast_ofNat_Int, hn, g2, g3, g10, g11, g12, hv1.idx, hv1.ldA (0, 0)]
    refine hS.eNew 2 [I 0, I 0] rfl rfl rfl tS48 fun D H5 hS => ?_
    repeat first | (with_reducible first | refine Wp.seq ?_ | refine Wp.reg ?_ | refine Wp.block ?_ | refine Wp.skip ?_ | refine Wp.ret ?_ | refine Wp.exit ?_ | refine Wp.label ?_ | refine Wp.condG ?_) | simp (disch := omega) only [↓RP, RQ, TS, TR, ↓reduceIte, Nat.reduceEqDiff, Nat.reduceLT, Nat.reduceLeDiff, Int.reduceLT, Int.reduceLE, Int.reduceEq, Int.reduceAdd, Int.reduceSub, Int.reduceNeg, Int.reduceToNat, Nat.reduceAdd, Nat.reduceMul, Nat.reduceSub, reduceCtorEq, RC, Int.cast_ofNat_Int, hn, g2, g3, g10, g11, g12]
    refine hS.eStore 4 rfl [_, _] rfl rfl tS48 (by simp) fun H6 hS => ?_
    simp only [List.nil_append, List.cons_append, List.append_nil, List.set_cons_zero, List.set_cons_succ, setMany_cons, setMany_nil, Nat.zero_add, Nat.mul_one, Nat.add_zero] at hS
    repeat first | (with_reducible first | refine Wp.seq ?_ | refine Wp.reg ?_ | refine Wp.block ?_ | refine Wp.skip ?_ | refine Wp.ret ?_ | refine Wp.exit ?_ | refine Wp.label ?_ | refine Wp.condG ?_) | simp (disch := omega) only [↓RP, RQ, TS, TR, ↓reduceIte, Nat.reduceEqDiff, Nat.reduceLT, Nat.reduceLeDiff, Int.reduceLT, Int.reduceLE, Int.reduceEq, Int.reduceAdd, Int.reduceSub, Int.reduceNeg, Int.reduceToNat, Nat.reduceAdd, Nat.reduceMul, Nat.reduceSub, reduceCtorEq, RC, Int.cast_ofNat_Int, hn, g2, g3, g10, g11, g12, hS.ld 2 rfl, hS.ld 4 rfl]
    refine hS.eSlice [I _, I _] tP25 tF25 rfl rfl (by simp [Value.cells]) rfl rfl (by decide) (by decide) fun x H7 hS => ?_
    repeat first | (with_reducible first | refine Wp.seq ?_ | refine Wp.reg ?_ | refine Wp.block ?_ | refine Wp.skip ?_ | refine Wp.ret ?_ | refine Wp.exit ?_ | refine Wp.label ?_ | refine Wp.condG ?_) | simp (disch := omega) only [↓RP, RQ, TS, TR, ↓reduceIte, Nat.reduceEqDiff, Nat.reduceLT, Nat.reduceLeDiff, Int.reduceLT, Int.reduceLE, Int.reduceEq, Int.reduceAdd, Int.reduceSub, Int.reduceNeg, Int.reduceToNat, Nat.reduceAdd, Nat.reduceMul, Nat.reduceSub, reduceCtorEq, RC, Int.cast_ofNat_Int, hn, g2, g3, g10, g11, g12]
    refine hS.eAppend 3 rfl (hS.rd 5 rfl) tP25 (by simp only [eg_length, tE, List.length_map, List.length_take, List.length_cons, List.length_nil]; omega) fun w' H8 hS => ?_
    have hw := (hS.rd 3 rfl).cells
    repeat first | (with_reducible first | refine Wp.seq ?_ | refine Wp.reg ?_ | refine Wp.block ?_ | refine Wp.skip ?_ | refine Wp.ret ?_ | refine Wp.exit ?_ | refine Wp.label ?_ | refine Wp.condG ?_) | simp (disch := omega) only [↓RP, RQ, TS, TR, ↓reduceIte, Nat.reduceEqDiff, Nat.reduceLT, Nat.reduceLeDiff, Int.reduceLT, Int.reduceLE, Int.reduceEq, Int.reduceAdd, Int.reduceSub, Int.reduceNeg, Int.reduceToNat, Nat.reduceAdd, Nat.reduceMul, Nat.reduceSub, reduceCtorEq, RC, Int.cast_ofNat_Int, hn, g2, g3, g10, g11, g12]
    refine hS.eStore 2 rfl [w'] (by rw [hw.1]) (by simp [hw.2.1]) tS25 (by simp) fun H9 hS => ?_
    simp only [List.nil_append, List.cons_append, List.append_nil, List.set_cons_zero, List.set_cons_succ, setMany_cons, setMany_nil, Nat.zero_add, Nat.mul_one, Nat.add_zero] at hS
    repeat first | (with_reducible first | refine Wp.seq ?_ | refine Wp.reg ?_ | refine Wp.block ?_ | refine Wp.skip ?_ | refine Wp.ret ?_ | refine Wp.exit ?_ | refine Wp.label ?_ | refine Wp.condG ?_) | simp (disch := omega) only [↓RP, RQ, TS, TR, ↓reduceIte, Nat.reduceEqDiff, Nat.reduceLT, Nat.reduceLeDiff, Int.reduceLT, Int.reduceLE, Int.reduceEq, Int.reduceAdd, Int.reduceSub, Int.reduceNeg, Int.reduceToNat, Nat.reduceAdd, Nat.reduceMul, Nat.reduceSub, reduceCtorEq, RC, Int.cast_ofNat_Int, hn, g2, g3, g10, g11, g12, wrap_fit]
    refine ⟨n - 1, by omega, i + 1, w', by omega, rfl, ?_⟩
    have e : tE (es.take (i + 1)) = tE (es.take i) ++ [((es.getD i (0, 0)).2, (es.getD i (0, 0)).1)] := by
      rw [take_succ_getD es i (0, 0) (by omega)]
      simp only [tE, List.map_append, List.map_cons, List.map_nil]
    rw [e, eg, List.flatMap_append]
    exact hS.sub (by simp)
  · have hw := (hS.rd 3 rfl).cells
    repeat first | (with_reducible first | refine Wp.seq ?_ | refine Wp.reg ?_ | refine Wp.block ?_ | refine Wp.skip ?_ | refine Wp.ret ?_ | refine Wp.exit ?_ | refine Wp.label ?_ | refine Wp.condG ?_) | simp (disch := omega) only [↓RP, RQ, TS, TR, ↓reduceIte, Nat.reduceEqDiff, Nat.reduceLT, Nat.reduceLeDiff, Int.reduceLT, Int.reduceLE, Int.reduceEq, Int.reduceAdd, Int.reduceSub, Int.reduceNeg, Int.reduceToNat, Nat.reduceAdd, Nat.reduceMul, Nat.reduceSub, reduceCtorEq, RC, Int.cast_ofNat_Int, hn, g2, g3, g10, g11, g12, hS.ldA 2 rfl]
    refine hS.eStore 1 rfl [I N, w] rfl (by simp [hw.2.1]; rfl) tS27 (by simp) fun H6 hS => ?_
    simp only [List.nil_append, List.cons_append, List.append_nil, List.set_cons_zero, List.set_cons_succ, setMany_cons, setMany_nil, Nat.zero_add, Nat.mul_one, Nat.add_zero] at hS
    repeat first | (with_reducible first | refine Wp.seq ?_ | refine Wp.reg ?_ | refine Wp.block ?_ | refine Wp.skip ?_ | refine Wp.ret ?_ | refine Wp.exit ?_ | refine Wp.label ?_ | refine Wp.condG ?_) | simp (disch := omega) only [↓RP, RQ, TS, TR, ↓reduceIte, Nat.reduceEqDiff, Nat.reduceLT, Nat.reduceLeDiff, Int.reduceLT, Int.reduceLE, Int.reduceEq, Int.reduceAdd, Int.reduceSub, Int.reduceNeg, Int.reduceToNat, Nat.reduceAdd, Nat.reduceMul, Nat.reduceSub, reduceCtorEq, RC, Int.cast_ofNat_Int, hn, g2, g3, g10, g11, g12, hS.ldA 1 rfl]
    refine ⟨w, rfl, ?_, hS.forget⟩
    have e : es.take i = es := List.take_of_length_le (by omega)
    rw [e] at hS
    exact hS.rd 3 rfl

theorem out_ok (N n : Nat) (v : Value) (es : List (Nat × Nat)) (he : es.length ≤ 1000) (Ag An : Nat) (f : Value) (J : Nat → Heap → Prop) (D : Heap → Prop) (h0 : J 0 H)
    (hg : ∀ j H1, J j H1 → Var H1 Ag 2 [I N, v] ∧ Var H1 An 1 [I n] ∧ Eg H1 v es)
    (hst : ∀ j H1 H2, J j H1 → St Try.prog H1 H2 [] → J j H2)
    (hskip : ∀ j H1, j < es.length → (es.getD j (0, 0)).1 ≠ n → J j H1 → J (j + 1) H1)
    (hf : ∀ j H1, j < es.length → (es.getD j (0, 0)).1 = n → J j H1 → callW Try.prog f [I j] H1 fun v H2 => ∃ b, v = .bool b ∧ (b = true → J (j + 1) H2) ∧ (b = false → D H2)) :
    FnS Try.prog 50 [f, ptr Ag 0 2, ptr An 0 1] H fun _ H' => J es.length H' ∨ D H' := by
  refine FnS.of_wp (fn := Try.f50) rfl rfl (by kernel_rfl) fun l hl => ?_
  have hn : l.length = 25 := by rw [hl]; rfl
  have g0 : get l 0 = f := by rw [hl]; rfl
  have g1 : get l 1 = ptr Ag 0 2 := by rw [hl]; rfl
  have g2 : get l 2 = ptr An 0 1 := by rw [hl]; rfl
  clear hl
  obtain ⟨hV, hU, hE⟩ := hg 0 H h0
  have hE1 : Sl2 H v _ _ es := hE
  repeat first | (with_reducible first | refine Wp.seq ?_ | refine Wp.reg ?_ | refine Wp.block ?_ | refine Wp.skip ?_ | refine Wp.ret ?_ | refine Wp.exit ?_ | refine Wp.label ?_ | refine Wp.condG ?_) | simp (disch := omega) only [↓RP, RQ, TS, TR, ↓reduceIte, Nat.reduceEqDiff, Nat.reduceLT, Nat.reduceLeDiff, Int.reduceLT, Int.reduceLE, Int.reduceEq, Int.reduceAdd, Int.reduceSub, Int.reduceNeg, Int.reduceToNat, Nat.reduceAdd, Nat.reduceMul, Nat.reduceSub, reduceCtorEq, RC, Int.cast_ofNat_Int, hn, g0, g1, g2, hV.ld, hE1.len]
  refine Wp.loopN (fun m l H' => l.length = 25 ∧ get l 0 = f ∧ get l 2 = ptr An 0 1 ∧ get l 7 = v ∧ get l 8 = I es.length ∧ ∃ i : Nat, m + i = es.length ∧ get l 9 = I i ∧ J i H') es.length ?_ ?_
  · repeat first | (with_reducible first | refine Wp.seq ?_ | refine Wp.reg ?_ | refine Wp.block ?_ | refine Wp.skip ?_ | refine Wp.ret ?_ | refine Wp.exit ?_ | refine Wp.label ?_ | refine Wp.condG ?_) | simp (disch := omega) only [↓RP, RQ, TS, TR, ↓reduceIte, Nat.reduceEqDiff, Nat.reduceLT, Nat.reduceLeDiff, Int.reduceLT, Int.reduceLE, Int.reduceEq, Int.reduceAdd, Int.reduceSub, Int.reduceNeg, Int.reduceToNat, Nat.reduceAdd, Nat.reduceMul, Nat.reduceSub, reduceCtorEq, RC, Int.cast_ofNat_Int, hn, g0, g1, g2]
    exact ⟨0, rfl, rfl, h0⟩
  clear hn g0 g1 g2 hV hU hE hE1 h0
  rintro m l H' ⟨hn, g0, g2, g7, g8, i, hi, g9, hJ⟩
  repeat first | (with_reducible first | refine Wp.seq ?_ | refine Wp.reg ?_ | refine Wp.block ?_ | refine Wp.skip ?_ | refine Wp.ret ?_ | refine Wp.exit ?_ | refine Wp.label ?_ | refine Wp.condG ?_) | simp (disch := omega) only [↓RP, RQ, TS, TR, ↓reduceIte, Nat.reduceEqDiff, Nat.reduceLT, Nat.reduceLeDiff, Int.reduceLT, Int.reduceLE, Int.reduceEq, Int.reduceAdd, Int.reduceSub, Int.reduceNeg, Int.reduceToNat, Nat.reduceAdd, Nat.reduceMul, Nat.reduceSub, reduceCtorEq, RC, Int.cast_ofNat_Int, hn, g0, g2, g7, g8, g9]
  refine condW_split (fun h => ?_) (fun h => ?_)
  · obtain ⟨hV, hU, hE⟩ := hg i H' hJ
    have hE1 : Sl2 H' v _ _ es := hE
    repeat first | (with_reducible first | refine Wp.seq ?_ | refine Wp.reg ?_ | refine Wp.block ?_ | refine Wp.skip ?_ | refine Wp.ret ?_ | refine Wp.exit ?_ | refine Wp.label ?_ | refine Wp.condG ?_) | simp (disch := omega) only [↓RP, RQ, TS, TR, ↓reduceIte, Nat.reduceEqDiff, Nat.reduceLT, Nat.reduceLeDiff, Int.reduceLT, Int.reduceLE, Int.reduceEq, Int.reduceAdd, Int.reduceSub, Int.reduceNeg, Int.reduceToNat, Nat.reduceAdd, Nat.reduceMul, Nat.reduceSub, reduceCtorEq, RC, Int.cast_ofNat_Int, hn, g0, g2, g7, g8, g9, hE1.idx, hE1.ldA (0, 0)]
    refine (St.refl _ H').eNew 2 [I 0, I 0] rfl rfl rfl tS48 fun C H5 hS => ?_
    repeat first | (with_reducible first | refine Wp.seq ?_ | refine Wp.reg ?_ | refine Wp.block ?_ | refine Wp.skip ?_ | refine Wp.ret ?_ | refine Wp.exit ?_ | refine Wp.label ?_ | refine Wp.condG ?_) | simp (disch := omega) only [↓RP, RQ, TS, TR, ↓reduceIte, Nat.reduceEqDiff, Nat.reduceLT, Nat.reduceLeDiff, Int.reduceLT, Int.reduceLE, Int.reduceEq, Int.reduceAdd, Int.reduceSub, Int.reduceNeg, Int.reduceToNat, Nat.reduceAdd, Nat.reduceMul, Nat.reduceSub, reduceCtorEq, RC, Int.cast_ofNat_Int, hn, g0, g2, g7, g8, g9]
    refine hS.eStore 0 rfl [_, _] rfl rfl tS48 (by simp) fun H6 hS => ?_
    simp only [List.nil_append, List.cons_append, List.append_nil, List.set_cons_zero, List.set_cons_succ, setMany_cons, setMany_nil, Nat.zero_add, Nat.mul_one, Nat.add_zero] at hS
    have hU6 := hU.keep hS.keep
    have hJ6 := hst i H' H6 hJ hS.forget
    repeat first | (with_reducible first | refine Wp.seq ?_ | refine Wp.reg ?_ | refine Wp.block ?_ | refine Wp.skip ?_ | refine Wp.ret ?_ | refine Wp.exit ?_ | refine Wp.label ?_ | refine Wp.condG ?_) | simp (disch := omega) only [↓RP, RQ, TS, TR, ↓reduceIte, Nat.reduceEqDiff, Nat.reduceLT, Nat.reduceLeDiff, Int.reduceLT, Int.reduceLE, Int.reduceEq, Int.reduceAdd, Int.reduceSub, Int.reduceNeg, Int.reduceToNat, Nat.reduceAdd, Nat.reduceMul, Nat.reduceSub, reduceCtorEq, RC, Int.cast_ofNat_Int, hn, g0, g2, g7, g8, g9, hS.ld 0 rfl, hU6.ld]
    refine letG_split (fun h2 => ?_) (fun h2 => ?_)
    · repeat first | (with_reducible first | refine Wp.seq ?_ | refine Wp.reg ?_ | refine Wp.block ?_ | refine Wp.skip ?_ | refine Wp.ret ?_ | refine Wp.exit ?_ | refine Wp.label ?_ | refine Wp.condG ?_) | simp (disch := omega) only [↓RP, RQ, TS, TR, ↓reduceIte, Nat.reduceEqDiff, Nat.reduceLT, Nat.reduceLeDiff, Int.reduceLT, Int.reduceLE, Int.reduceEq, Int.reduceAdd, Int.reduceSub, Int.reduceNeg, Int.reduceToNat, Nat.reduceAdd, Nat.reduceMul, Nat.reduceSub, reduceCtorEq, RC, Int.cast_ofNat_Int, hn, g0, g2, g7, g8, g9, h2]
      refine callW_mono (hf i H6 (by omega) (by omega) hJ6) ?_
      rintro r H7 ⟨b, rfl, hb1, hb2⟩
      repeat first | (with_reducible first | refine Wp.seq ?_ | refine Wp.reg ?_ | refine Wp.block ?_ | refine Wp.skip ?_ | refine Wp.ret ?_ | refine Wp.exit ?_ | refine Wp.label ?_ | refine Wp.condG ?_) | simp (disch := omega) only [↓RP, RQ, TS, TR, ↓reduceIte, Nat.reduceEqDiff, Nat.reduceLT, Nat.reduceLeDiff, Int.reduceLT, Int.reduceLE, Int.reduceEq, Int.reduceAdd, Int.reduceSub, Int.reduceNeg, Int.reduceToNat, Nat.reduceAdd, Nat.reduceMul, Nat.reduceSub, reduceCtorEq, RC, Int.cast_ofNat_Int, hn, g0, g2, g7, g8, g9, h2]
      cases b with
      | true =>
        repeat first | (with_reducible first | refine Wp.seq ?_ | refine Wp.reg ?_ | refine Wp.block ?_ | refine Wp.skip ?_ | refine Wp.ret ?_ | refine Wp.exit ?_ | refine Wp.label ?_ | refine Wp.condG ?_) | simp (disch := omega) only [↓RP, RQ, TS, TR, ↓reduceIte, Nat.reduceEqDiff, Nat.reduceLT, Nat.reduceLeDiff, Int.reduceLT, Int.reduceLE, Int.reduceEq, Int.reduceAdd, Int.reduceSub, Int.reduceNeg, Int.reduceToNat, Nat.reduceAdd, Nat.reduceMul, Nat.reduceSub, reduceCtorEq, RC, Int.cast_ofNat_Int, hn, g0, g2, g7, g8, g9, h2, wrap_fit]
        exact ⟨m - 1, by omega, i + 1, by omega, rfl, hb1 rfl⟩
      | false =>
        repeat first | (with_reducible first | refine Wp.seq ?_ | refine Wp.reg ?_ | refine Wp.block ?_ | refine Wp.skip ?_ | refine Wp.ret ?_ | refine Wp.exit ?_ | refine Wp.label ?_ | refine Wp.condG ?_) | simp (disch := omega) only [↓RP, RQ, TS, TR, ↓reduceIte, Nat.reduceEqDiff, Nat.reduceLT, Nat.reduceLeDiff, Int.reduceLT, Int.reduceLE, Int.reduceEq, Int.reduceAdd, Int.reduceSub, Int.reduceNeg, Int.reduceToNat, Nat.reduceAdd, Nat.reduceMul, Nat.reduceSub, reduceCtorEq, RC, Int.cast_ofNat_Int, hn, g0, g2, g7, g8, g9, h2]
        exact .inr (hb2 rfl)
    · repeat first | (with_reducible first | refine Wp.seq ?_ | refine Wp.reg ?_ | refine Wp.block ?_ | refine Wp.skip ?_ | refine Wp.ret ?_ | refine Wp.exit ?_ | refine Wp.label ?_ | refine Wp.condG ?_) | simp (disch := omega) only [↓RP, RQ, TS, TR, ↓reduceIte, Nat.reduceEqDiff, Nat.reduceLT, Nat.reduceLeDiff, Int.reduceLT, Int.reduceLE, Int.reduceEq, Int.reduceAdd, Int.reduceSub, Int.reduceNeg, Int.reduceToNat, Nat.reduceAdd, Nat.reduceMul, Nat.reduceSub, reduceCtorEq, RC, Int.cast_ofNat_Int, hn, g0, g2, g7, g8, g9, h2, wrap_fit]
      exact ⟨m - 1, by omega, i + 1, by omega, rfl, hskip i H6 (by omega) (by omega) hJ6⟩
  · repeat first | (with_reducible first | refine Wp.seq ?_ | refine Wp.reg ?_ | refine Wp.block ?_ | refine Wp.skip ?_ | refine Wp.ret ?_ | refine Wp.exit ?_ | refine Wp.label ?_ | refine Wp.condG ?_) | simp (disch := omega) only [↓RP, RQ, TS, TR, ↓reduceIte, Nat.reduceEqDiff, Nat.reduceLT, Nat.reduceLeDiff, Int.reduceLT, Int.reduceLE, Int.reduceEq, Int.reduceAdd, Int.reduceSub, Int.reduceNeg, Int.reduceToNat, Nat.reduceAdd, Nat.reduceMul, Nat.reduceSub, reduceCtorEq, RC, Int.cast_ofNat_Int, hn, g0, g2, g7, g8, g9]
    have e : i = es.length := by omega
    subst e
    exact .inl hJ
end Go.Ds
/-
  Contracts: reached.
-/
namespace Go.Ds
open Go.Proofs Go.Plain
variable {H : Heap}

abbrev bls (l : List Bool) : List Value := l.map fun b : Bool => .bool b
/-- Rows of truths, one for each number. -/
def innerB (N : Nat) (ws : Nat → Value) (nx : Nat → List Bool) : List Ob := (List.range N).map fun n => ⟨ws n, 1, bls (nx n)⟩
theorem innerB_get (N : Nat) (ws : Nat → Value) (nx : Nat → List Bool) (j : Nat) (hj : j < N) : (innerB N ws nx)[j]? = some ⟨ws j, 0 + 1, bls (nx j)⟩ := by simp [innerB, hj]
theorem innerB_set (N : Nat) (ws : Nat → Value) (nx : Nat → List Bool) (j : Nat) (w : Value) (l : List Bool) : (innerB N ws nx).set j ⟨w, 1, bls l⟩ = innerB N (upd ws j w) (upd nx j l) := by
  unfold innerB
  rw [map_upd]
  congr 1
  funext n
  simp only [upd]
  split <;> rfl
theorem St.nilsB {P : Program} {H0 : Base} (f : Nat → Value) (g : Nat → List Bool) (hf : ∀ n, f n = .slice none 0 0) (hg : ∀ n, g n = []) {os : List Ob} (hS : St P H0 H os) : ∀ N, St P H0 H (os ++ innerB N f g) := by
  intro N
  induction N with
  | zero => simpa [innerB] using hS
  | succ N ih =>
    have := ih.nil 0
    unfold innerB at this ⊢
    rw [List.range_succ, List.map_append, ← List.append_assoc]
    simpa [hf, hg] using this

/-- Which have a distance. -/
def rb (d : List Int) : List Bool := d.map fun x => decide (0 ≤ x)
theorem rb_succ (d : List Int) (k : Nat) (hk : k < d.length) : rb (d.take (k + 1)) = rb (d.take k) ++ [decide (0 ≤ d.getD k 0)] := by
  unfold rb
  rw [take_succ_getD d k 0 hk, List.map_append]
  rfl
theorem rb_length (d : List Int) : (rb d).length = d.length := List.length_map _

theorem reached_ok (N : Nat) (v : Value) (es : List (Nat × Nat)) (hv : Eg H v es) (hN : N ≤ 200) (he : es.length ≤ 1000) (hval : ∀ e ∈ es, e.1 < N ∧ e.2 < N) :
    Fn Try.prog 43 [.agg #[I N, v]] H fun r H' => ∃ (ws : Nat → Value) (ds : Nat → List Int), (∀ i, i < N → IsD es N i (ds i)) ∧ St Try.prog H H' (⟨r, 1, (List.range N).map ws⟩ :: innerB N ws fun i => rb (ds i)) := by
  have hrl : (List.range N).length = N := List.length_range
  have hrep : ∀ (N : Nat) (z : Value), List.replicate N z = (List.range N).map (fun _ => z) := fun N z => by
    rw [List.map_const', List.length_range]
  refine Fn.of_wp (fn := Try.f43) rfl rfl (by kernel_rfl) fun l hl => ?_
  have hn : l.length = 37 := by rw [hl]; rfl
  have g0 : get l 0 = .agg #[I N, v] := by rw [hl]; rfl
  clear hl
  repeat first | (with_reducible first | refine Wp.seq ?_ | refine Wp.reg ?_ | refine Wp.block ?_ | refine Wp.skip ?_ | refine Wp.ret ?_ | refine Wp.exit ?_ | refine Wp.label ?_ | refine Wp.condG ?_) | simp (disch := omega) only [↓RP, RQ, TS, TR, ↓reduceIte, Nat.reduceEqDiff, Nat.reduceLT, Nat.reduceLeDiff, Int.reduceLT, Int.reduceLE, Int.reduceEq, Int.reduceAdd, Int.reduceSub, Int.reduceNeg, Int.reduceToNat, Nat.reduceAdd, Nat.reduceMul, Nat.reduceSub, reduceCtorEq, RC, Int.cast_ofNat_Int, hn, g0]
  refine (St.refl _ H).eNew 2 [I N, v] rfl rfl (by simp [hv.one]; rfl) tS27 fun A H1 hS => ?_
  repeat first | (with_reducible first | refine Wp.seq ?_ | refine Wp.reg ?_ | refine Wp.block ?_ | refine Wp.skip ?_ | refine Wp.ret ?_ | refine Wp.exit ?_ | refine Wp.label ?_ | refine Wp.condG ?_) | simp (disch := omega) only [↓RP, RQ, TS, TR, ↓reduceIte, Nat.reduceEqDiff, Nat.reduceLT, Nat.reduceLeDiff, Int.reduceLT, Int.reduceLE, Int.reduceEq, Int.reduceAdd, Int.reduceSub, Int.reduceNeg, Int.reduceToNat, Nat.reduceAdd, Nat.reduceMul, Nat.reduceSub, reduceCtorEq, RC, Int.cast_ofNat_Int, hn, g0, hS.ld 0 rfl]
  refine hS.eMake1 N tM71 (by omega) fun w H2 hS => ?_
  have hS := hS.nilsB (fun _ => .slice none 0 0) (fun _ => []) (fun _ => rfl) (fun _ => rfl) N
  rw [hrep N (.slice none 0 0)] at hS
  simp only [List.nil_append, List.cons_append, List.append_nil, List.set_cons_zero, List.set_cons_succ, setMany_cons, setMany_nil, Nat.zero_add, Nat.mul_one, Nat.add_zero] at hS
  have ho : Sl1 H2 w (fun _ => .slice none 0 0) (List.range N) := hS.rd 1 rfl
  repeat first | (with_reducible first | refine Wp.seq ?_ | refine Wp.reg ?_ | refine Wp.block ?_ | refine Wp.skip ?_ | refine Wp.ret ?_ | refine Wp.exit ?_ | refine Wp.label ?_ | refine Wp.condG ?_) | simp (disch := omega) only [↓RP, RQ, TS, TR, ↓reduceIte, Nat.reduceEqDiff, Nat.reduceLT, Nat.reduceLeDiff, Int.reduceLT, Int.reduceLE, Int.reduceEq, Int.reduceAdd, Int.reduceSub, Int.reduceNeg, Int.reduceToNat, Nat.reduceAdd, Nat.reduceMul, Nat.reduceSub, reduceCtorEq, RC, Int.cast_ofNat_Int, hn, g0, ho.len]
  refine Wp.loopN (fun n l H' => l.length = 37 ∧ get l 1 = ptr A 0 2 ∧ get l 3 = w ∧ get l 11 = I N ∧ ∃ (i : Nat) (ws : Nat → Value) (ds : Nat → List Int), n + i = N ∧ get l 12 = I i ∧ (∀ j, j < i → IsD es N j (ds j)) ∧ (∀ j, i ≤ j → ds j = []) ∧
    St Try.prog H H' (⟨ptr A 0 2, 0, [I N, v]⟩ :: ⟨w, 1, (List.range N).map ws⟩ :: innerB N ws fun i => rb (ds i))) N ?_ ?_
  · repeat first | (with_reducible first | refine Wp.seq ?_ | refine Wp.reg ?_ | refine Wp.block ?_ | refine Wp.skip ?_ | refine Wp.ret ?_ | refine Wp.exit ?_ | refine Wp.label ?_ | refine Wp.condG ?_) | simp (disch := omega) only [↓RP, RQ, TS, TR, ↓reduceIte, Nat.reduceEqDiff, Nat.reduceLT, Nat.reduceLeDiff, Int.reduceLT, Int.reduceLE, Int.reduceEq, Int.reduceAdd, Int.reduceSub, Int.reduceNeg, Int.reduceToNat, Nat.reduceAdd, Nat.reduceMul, Nat.reduceSub, reduceCtorEq, RC, Int.cast_ofNat_Int, hn, g0, hrl]
    exact ⟨0, _, fun _ => [], rfl, rfl, fun j hj => absurd hj (Nat.not_lt_zero _), fun _ _ => rfl, hS⟩
  clear hS hn g0 ho
  rintro n l H' ⟨hn, g1, g3, g11, i, ws, ds, hi, g12, hds, hnil, hS⟩
  repeat first | (with_reducible first | refine Wp.seq ?_ | refine Wp.reg ?_ | refine Wp.block ?_ | refine Wp.skip ?_ | refine Wp.ret ?_ | refine Wp.exit ?_ | refine Wp.label ?_ | refine Wp.condG ?_) | simp (disch := omega) only [↓RP, RQ, TS, TR, ↓reduceIte, Nat.reduceEqDiff, Nat.reduceLT, Nat.reduceLeDiff, Int.reduceLT, Int.reduceLE, Int.reduceEq, Int.reduceAdd, Int.reduceSub, Int.reduceNeg, Int.reduceToNat, Nat.reduceAdd, Nat.reduceMul, Nat.reduceSub, reduceCtorEq, RC, Int.cast_ofNat_Int, hn, g1, g3, g11, g12]
  refine condW_split (fun h => ?_) (fun h => ?_)
  · have hiN : i < N := by omega
    repeat first | (with_reducible first | refine Wp.seq ?_ | refine Wp.reg ?_ | refine Wp.block ?_ | refine Wp.skip ?_ | refine Wp.ret ?_ | refine Wp.exit ?_ | refine Wp.label ?_ | refine Wp.condG ?_) | simp (disch := omega) only [↓RP, RQ, TS, TR, ↓reduceIte, Nat.reduceEqDiff, Nat.reduceLT, Nat.reduceLeDiff, Int.reduceLT, Int.reduceLE, Int.reduceEq, Int.reduceAdd, Int.reduceSub, Int.reduceNeg, Int.reduceToNat, Nat.reduceAdd, Nat.reduceMul, Nat.reduceSub, reduceCtorEq, RC, Int.cast_ofNat_Int, hn, g1, g3, g11, g12, hS.ldA 0 rfl]
    refine callFW_of (distances_ok N v es (hS.base hv) hN he hval i 0 hiN (Nat.zero_le _)) ?_
    rintro dv H3 ⟨d, hd, hdN, hS3⟩
    rw [List.drop_zero] at hd
    have hS := (hS.trans hS3).front
    have hdl := hd.len
    have hdv : Sl1 H3 dv (.int .i64) d := hS.rd 0 rfl
    have hS := hS.sub (os' := ⟨dv, 1, d.map (.int .i64)⟩ :: ⟨ptr A 0 2, 0, [I N, v]⟩ :: ⟨w, 1, (List.range N).map ws⟩ :: innerB N ws (upd (fun i => rb (ds i)) i (rb (d.take 0)))) (by
      have e : upd (fun i => rb (ds i)) i (rb (d.take 0)) = fun i => rb (ds i) := by
        funext j
        unfold upd
        split
        · rename_i hj; rw [hj, hnil i (Nat.le_refl _)]; rfl
        · rfl
      rw [e]
      exact List.Sublist.refl _)
    repeat first | (with_reducible first | refine Wp.seq ?_ | refine Wp.reg ?_ | refine Wp.block ?_ | refine Wp.skip ?_ | refine Wp.ret ?_ | refine Wp.exit ?_ | refine Wp.label ?_ | refine Wp.condG ?_) | simp (disch := omega) only [↓RP, RQ, TS, TR, ↓reduceIte, Nat.reduceEqDiff, Nat.reduceLT, Nat.reduceLeDiff, Int.reduceLT, Int.reduceLE, Int.reduceEq, Int.reduceAdd, Int.reduceSub, Int.reduceNeg, Int.reduceToNat, Nat.reduceAdd, Nat.reduceMul, Nat.reduceSub, reduceCtorEq, RC, Int.cast_ofNat_Int, hn, g1, g3, g11, g12, hdv.len]
    clear hdv
    refine Wp.loopN (fun m l H' => l.length = 37 ∧ get l 1 = ptr A 0 2 ∧ get l 3 = w ∧ get l 4 = I i ∧ get l 11 = I N ∧ get l 12 = I i ∧ get l 17 = dv ∧ get l 18 = I d.length ∧ ∃ (k : Nat) (ws : Nat → Value), m + k = N ∧ get l 19 = I k ∧
      St Try.prog H H' (⟨dv, 1, d.map (.int .i64)⟩ :: ⟨ptr A 0 2, 0, [I N, v]⟩ :: ⟨w, 1, (List.range N).map ws⟩ :: innerB N ws (upd (fun i => rb (ds i)) i (rb (d.take k))))) N ?_ ?_
    · repeat first | (with_reducible first | refine Wp.seq ?_ | refine Wp.reg ?_ | refine Wp.block ?_ | refine Wp.skip ?_ | refine Wp.ret ?_ | refine Wp.exit ?_ | refine Wp.label ?_ | refine Wp.condG ?_) | simp (disch := omega) only [↓RP, RQ, TS, TR, ↓reduceIte, Nat.reduceEqDiff, Nat.reduceLT, Nat.reduceLeDiff, Int.reduceLT, Int.reduceLE, Int.reduceEq, Int.reduceAdd, Int.reduceSub, Int.reduceNeg, Int.reduceToNat, Nat.reduceAdd, Nat.reduceMul, Nat.reduceSub, reduceCtorEq, RC, Int.cast_ofNat_Int, hn, g1, g3, g11, g12]
      exact ⟨0, ws, rfl, rfl, hS⟩
    clear hS hS3 hn g1 g3 g11 g12
    rintro m l H' ⟨hn, g1, g3, g4, g11, g12, g17, g18, k, ws, hk, g19, hS⟩
    have hdv : Sl1 H' dv (.int .i64) d := hS.rd 0 rfl
    have ho : Sl1 H' w ws (List.range N) := hS.rd 2 rfl
    repeat first | (with_reducible first | refine Wp.seq ?_ | refine Wp.reg ?_ | refine Wp.block ?_ | refine Wp.skip ?_ | refine Wp.ret ?_ | refine Wp.exit ?_ | refine Wp.label ?_ | refine Wp.condG ?_) | simp (disch := omega) only [↓RP, RQ, TS, TR, ↓reduceIte, Nat.reduceEqDiff, Nat.reduceLT, Nat.reduceLeDiff, Int.reduceLT, Int.reduceLE, Int.reduceEq, Int.reduceAdd, Int.reduceSub, Int.reduceNeg, Int.reduceToNat, Nat.reduceAdd, Nat.reduceMul, Nat.reduceSub, reduceCtorEq, RC, Int.cast_ofNat_Int, hn, g1, g3, g4, g11, g12, g17, g18, g19]
    refine condW_split (fun h2 => ?_) (fun h2 => ?_)
    · have hkN : k < N := by omega
      repeat first | (with_reducible first | refine Wp.seq ?_ | refine Wp.reg ?_ | refine Wp.block ?_ | refine Wp.skip ?_ | refine Wp.ret ?_ | refine Wp.exit ?_ | refine Wp.label ?_ | refine Wp.condG ?_) | simp (disch := omega) only [↓RP, RQ, TS, TR, ↓reduceIte, Nat.reduceEqDiff, Nat.reduceLT, Nat.reduceLeDiff, Int.reduceLT, Int.reduceLE, Int.reduceEq, Int.reduceAdd, Int.reduceSub, Int.reduceNeg, Int.reduceToNat, Nat.reduceAdd, Nat.reduceMul, Nat.reduceSub, reduceCtorEq, RC, Int.cast_ofNat_Int, hn, g1, g3, g4, g11, g12, g17, g18, g19, hdv.idx, hdv.ld 0, ho.idx, ho.ld 0, getD_range]
      refine hS.eSlice [.bool (decide (0 ≤ d.getD k 0))] tP69 tF69 rfl rfl (by simp [Value.cells]) rfl rfl (by decide) (by decide) fun x H4 hS => ?_
      have hS := hS.front
      repeat first | (with_reducible first | refine Wp.seq ?_ | refine Wp.reg ?_ | refine Wp.block ?_ | refine Wp.skip ?_ | refine Wp.ret ?_ | refine Wp.exit ?_ | refine Wp.label ?_ | refine Wp.condG ?_) | simp (disch := omega) only [↓RP, RQ, TS, TR, ↓reduceIte, Nat.reduceEqDiff, Nat.reduceLT, Nat.reduceLeDiff, Int.reduceLT, Int.reduceLE, Int.reduceEq, Int.reduceAdd, Int.reduceSub, Int.reduceNeg, Int.reduceToNat, Nat.reduceAdd, Nat.reduceMul, Nat.reduceSub, reduceCtorEq, RC, Int.cast_ofNat_Int, hn, g1, g3, g4, g11, g12, g17, g18, g19]
      refine hS.eAppend (i + 4) (innerB_get N ws _ _ hiN) (hS.rd 0 rfl) tP69 ?_ fun w' H5 hS => ?_
      · rw [show upd (fun i => rb (ds i)) i (rb (d.take k)) i = rb (d.take k) from if_pos rfl]
        simp only [bls, List.length_map, rb_length, List.length_take, List.length_cons, List.length_nil]
        omega
      simp only [List.nil_append, List.cons_append, List.append_nil, List.set_cons_zero, List.set_cons_succ, setMany_cons, setMany_nil, Nat.zero_add, Nat.mul_one, Nat.add_zero] at hS
      rw [show upd (fun i => rb (ds i)) i (rb (d.take k)) i = rb (d.take k) from if_pos rfl, show bls (rb (d.take k)) ++ [Value.bool (decide (0 ≤ d.getD k 0))] = bls (rb (d.take (k + 1))) from by rw [rb_succ d k (by omega)]; simp [bls], innerB_set] at hS
      have ho8 : Sl1 H5 w ws (List.range N) := hS.rd 3 rfl
      have hw' := (hS.rd (i + 4) (innerB_get N _ _ _ hiN)).cells
      rw [show upd ws i w' i = w' from if_pos rfl] at hw'
      repeat first | (with_reducible first | refine Wp.seq ?_ | refine Wp.reg ?_ | refine Wp.block ?_ | refine Wp.skip ?_ | refine Wp.ret ?_ | refine Wp.exit ?_ | refine Wp.label ?_ | refine Wp.condG ?_) | simp (disch := omega) only [↓RP, RQ, TS, TR, ↓reduceIte, Nat.reduceEqDiff, Nat.reduceLT, Nat.reduceLeDiff, Int.reduceLT, Int.reduceLE, Int.reduceEq, Int.reduceAdd, Int.reduceSub, Int.reduceNeg, Int.reduceToNat, Nat.reduceAdd, Nat.reduceMul, Nat.reduceSub, reduceCtorEq, RC, Int.cast_ofNat_Int, hn, g1, g3, g4, g11, g12, g17, g18, g19, ho8.idx]
      refine hS.eStoreE 3 rfl [w'] (by rw [hw'.1]) (by simp [hw'.2.1]) tS69 (by simp) (by simp only [List.length_map, List.length_cons, List.length_nil]; omega) fun H6 hS => ?_
      simp only [List.nil_append, List.cons_append, List.append_nil, List.set_cons_zero, List.set_cons_succ, setMany_cons, setMany_nil, Nat.zero_add, Nat.mul_one, Nat.add_zero] at hS
      rw [map_upd] at hS
      repeat first | (with_reducible first | refine Wp.seq ?_ | refine Wp.reg ?_ | refine Wp.block ?_ | refine Wp.skip ?_ | refine Wp.ret ?_ | refine Wp.exit ?_ | refine Wp.label ?_ | refine Wp.condG ?_) | simp (disch := omega) only [↓RP, RQ, TS, TR, ↓reduceIte, Nat.reduceEqDiff, Nat.reduceLT, Nat.reduceLeDiff, Int.reduceLT, Int.reduceLE, Int.reduceEq, Int.reduceAdd, Int.reduceSub, Int.reduceNeg, Int.reduceToNat, Nat.reduceAdd, Nat.reduceMul, Nat.reduceSub, reduceCtorEq, RC, Int.cast_ofNat_Int, hn, g1, g3, g4, g11, g12, g17, g18, g19, wrap_fit]
      refine ⟨m - 1, by omega, k + 1, upd ws i w', by omega, rfl, ?_⟩
      have hS := hS.tail
      have e : upd (upd (fun i => rb (ds i)) i (rb (d.take k))) i (rb (d.take (k + 1))) = upd (fun i => rb (ds i)) i (rb (d.take (k + 1))) := by
        funext j
        unfold upd
        split <;> rfl
      rw [e] at hS
      exact hS
    · have hke : k = N := by omega
      subst hke
      repeat first | (with_reducible first | refine Wp.seq ?_ | refine Wp.reg ?_ | refine Wp.block ?_ | refine Wp.skip ?_ | refine Wp.ret ?_ | refine Wp.exit ?_ | refine Wp.label ?_ | refine Wp.condG ?_) | simp (disch := omega) only [↓RP, RQ, TS, TR, ↓reduceIte, Nat.reduceEqDiff, Nat.reduceLT, Nat.reduceLeDiff, Int.reduceLT, Int.reduceLE, Int.reduceEq, Int.reduceAdd, Int.reduceSub, Int.reduceNeg, Int.reduceToNat, Nat.reduceAdd, Nat.reduceMul, Nat.reduceSub, reduceCtorEq, RC, Int.cast_ofNat_Int, hn, g1, g3, g4, g11, g12, g17, g18, g19, wrap_fit]
      refine ⟨n - 1, by omega, i + 1, ws, upd ds i d, by omega, rfl, fun j hj => ?_, fun j hj => ?_, ?_⟩
      · unfold upd
        split
        · rename_i e; rw [e]; exact hd
        · exact hds j (by omega)
      · unfold upd
        rw [if_neg (by omega)]
        exact hnil j (by omega)
      · have hS := hS.tail
        rw [List.take_of_length_le (by omega)] at hS
        have e : upd (fun i => rb (ds i)) i (rb d) = fun j => rb (upd ds i d j) := by
          funext j
          unfold upd
          split <;> rfl
        rw [e] at hS
        exact hS
  · have e : i = N := by omega
    subst e
    repeat first | (with_reducible first | refine Wp.seq ?_ | refine Wp.reg ?_ | refine Wp.block ?_ | refine Wp.skip ?_ | refine Wp.ret ?_ | refine Wp.exit ?_ | refine Wp.label ?_ | refine Wp.condG ?_) | simp (disch := omega) only [↓RP, RQ, TS, TR, ↓reduceIte, Nat.reduceEqDiff, Nat.reduceLT, Nat.reduceLeDiff, Int.reduceLT, Int.reduceLE, Int.reduceEq, Int.reduceAdd, Int.reduceSub, Int.reduceNeg, Int.reduceToNat, Nat.reduceAdd, Nat.reduceMul, Nat.reduceSub, reduceCtorEq, RC, Int.cast_ofNat_Int, hn, g1, g3, g11, g12]
    exact ⟨ws, ds, hds, hS.tail⟩
end Go.Ds
/-
  Contracts: walk.
-/
namespace Go.Ds
open Go.Proofs Go.Plain
variable {H : Heap}

theorem Wp.of_eq {P : Program} {c c' : Code} {l l' : List Value} {Q : Out} (hc : c' = c) (hl : l' = l) (h : Wp P c l H Q) : Wp P c' l' H Q := by
  subst hc hl; exact h

theorem Wp.slots {P : Program} {c : Code} {l : List Value} {Q : Out} (h : ∀ l', l' = l → Wp P c l' H Q) : Wp P c l H Q := h l rfl

theorem Wp.rangeR {P : Program} {t : Tmp} {ps : Array Tmp} {assign body : Code} {l : List Value} {Q : Out} {k : FuncId} {captured : List Value} (hg : get l t = .func (.func k) #[] captured.toArray)
    (h : ∀ r : Loop, r.state = .ready → r.pending = none → r.tmps = l.toArray → r.params = ps → r.assign = assign → r.body = body →
      FnS P k ([.func (.yield H.length) #[] #[]] ++ captured) (H.cons (.loop r)) (afterQ P l H.length Q)) : Wp P (.rangeFunc (.tmp t) ps assign body) l H Q :=
  Wp.range (first := []) rfl hg (h (loop0 l ps assign body) rfl rfl rfl rfl rfl rfl)

theorem out1_ok (N n : Nat) (v : Value) (hv : oneCell v = true) : Fn Try.prog 41 [.agg #[I N, v], I n] H fun r H' => ∃ Ag An, r = .func (.func 50) #[] #[ptr Ag 0 2, ptr An 0 1] ∧ St Try.prog H H' [⟨ptr Ag 0 2, 0, [I N, v]⟩, ⟨ptr An 0 1, 0, [I n]⟩] := by
  refine Fn.of_wp (fn := Try.f41) rfl rfl (by kernel_rfl) fun l hl => ?_
  have hn : l.length = 6 := by rw [hl]; rfl
  have g0 : get l 0 = .agg #[I N, v] := by rw [hl]; rfl
  have g1 : get l 1 = I n := by rw [hl]; rfl
  clear hl
  repeat first | (with_reducible first | refine Wp.seq ?_ | refine Wp.reg ?_ | refine Wp.block ?_ | refine Wp.skip ?_ | refine Wp.ret ?_ | refine Wp.exit ?_ | refine Wp.label ?_ | refine Wp.condG ?_) | simp (disch := omega) only [↓RP, RQ, TS, TR, ↓reduceIte, Nat.reduceEqDiff, Nat.reduceLT, Nat.reduceLeDiff, Int.reduceLT, Int.reduceLE, Int.reduceEq, Int.reduceAdd, Int.reduceSub, Int.reduceNeg, Int.reduceToNat, Nat.reduceAdd, Nat.reduceMul, Nat.reduceSub, reduceCtorEq, RC, Int.cast_ofNat_Int, hn, g0, g1]
  refine (St.refl _ H).eNew 2 [I N, v] rfl rfl (by simp [hv]; rfl) tS27 fun A H1 hS => ?_
  repeat first | (with_reducible first | refine Wp.seq ?_ | refine Wp.reg ?_ | refine Wp.block ?_ | refine Wp.skip ?_ | refine Wp.ret ?_ | refine Wp.exit ?_ | refine Wp.label ?_ | refine Wp.condG ?_) | simp (disch := omega) only [↓RP, RQ, TS, TR, ↓reduceIte, Nat.reduceEqDiff, Nat.reduceLT, Nat.reduceLeDiff, Int.reduceLT, Int.reduceLE, Int.reduceEq, Int.reduceAdd, Int.reduceSub, Int.reduceNeg, Int.reduceToNat, Nat.reduceAdd, Nat.reduceMul, Nat.reduceSub, reduceCtorEq, RC, Int.cast_ofNat_Int, hn, g0, g1]
  refine hS.eNew 1 [I n] rfl rfl rfl tS3 fun B H2 hS => ?_
  repeat first | (with_reducible first | refine Wp.seq ?_ | refine Wp.reg ?_ | refine Wp.block ?_ | refine Wp.skip ?_ | refine Wp.ret ?_ | refine Wp.exit ?_ | refine Wp.label ?_ | refine Wp.condG ?_) | simp (disch := omega) only [↓RP, RQ, TS, TR, ↓reduceIte, Nat.reduceEqDiff, Nat.reduceLT, Nat.reduceLeDiff, Int.reduceLT, Int.reduceLE, Int.reduceEq, Int.reduceAdd, Int.reduceSub, Int.reduceNeg, Int.reduceToNat, Nat.reduceAdd, Nat.reduceMul, Nat.reduceSub, reduceCtorEq, RC, Int.cast_ofNat_Int, hn, g0, g1]
  exact ⟨A, B, rfl, hS⟩

theorem walk_ok (N : Nat) (v : Value) (es : List (Nat × Nat)) (hv : Eg H v es) (hN : N ≤ 200) (he : es.length ≤ 1000) (hval : ∀ e ∈ es, e.1 < N ∧ e.2 < N) (s t first : Nat) (hs : s < N) (ht : t < N) (hf : first ≤ es.length) :
    Fn Try.prog 38 [.agg #[I N, v], I s, I t, I first] H fun r H' => ∃ (d : List Int) (w : Value), IsD (tE (es.drop first)) N t d ∧ (∀ k, k < N → d.getD k 0 ≤ N) ∧ r = .tuple #[w, .bool (decide (0 ≤ d.getD s 0))] ∧
      St Try.prog H H' [⟨w, 1, nts (if 0 ≤ d.getD s 0 then pF es first d (d.getD s 0).toNat s else [])⟩] := by
  refine Fn.of_wp (fn := Try.f38) rfl rfl (by kernel_rfl) fun l hl => ?_
  have hn : l.length = 63 := by rw [hl]; rfl
  have g0 : get l 0 = .agg #[I N, v] := by rw [hl]; rfl
  have g1 : get l 1 = I s := by rw [hl]; rfl
  have g2 : get l 2 = I t := by rw [hl]; rfl
  have g3 : get l 3 = I first := by rw [hl]; rfl
  clear hl
  repeat first | (with_reducible first | refine Wp.seq ?_ | refine Wp.reg ?_ | refine Wp.block ?_ | refine Wp.skip ?_ | refine Wp.ret ?_ | refine Wp.exit ?_ | refine Wp.label ?_ | refine Wp.condG ?_) | simp (disch := omega) only [↓RP, RQ, TS, TR, ↓reduceIte, Nat.reduceEqDiff, Nat.reduceLT, Nat.reduceLeDiff, Int.reduceLT, Int.reduceLE, Int.reduceEq, Int.reduceAdd, Int.reduceSub, Int.reduceNeg, Int.reduceToNat, Nat.reduceAdd, Nat.reduceMul, Nat.reduceSub, reduceCtorEq, RC, Int.cast_ofNat_Int, hn, g0, g1, g2, g3]
  refine (St.refl _ H).eNew 2 [I N, v] rfl rfl (by simp [hv.one]; rfl) tS27 fun A H1 hS => ?_
  repeat first | (with_reducible first | refine Wp.seq ?_ | refine Wp.reg ?_ | refine Wp.block ?_ | refine Wp.skip ?_ | refine Wp.ret ?_ | refine Wp.exit ?_ | refine Wp.label ?_ | refine Wp.condG ?_) | simp (disch := omega) only [↓RP, RQ, TS, TR, ↓reduceIte, Nat.reduceEqDiff, Nat.reduceLT, Nat.reduceLeDiff, Int.reduceLT, Int.reduceLE, Int.reduceEq, Int.reduceAdd, Int.reduceSub, Int.reduceNeg, Int.reduceToNat, Nat.reduceAdd, Nat.reduceMul, Nat.reduceSub, reduceCtorEq, RC, Int.cast_ofNat_Int, hn, g0, g1, g2, g3]
  refine hS.eNew 1 [I first] rfl rfl rfl tS3 fun F H2 hS2 => ?_
  simp only [List.nil_append, List.cons_append, List.append_nil, List.set_cons_zero, List.set_cons_succ, setMany_cons, setMany_nil, Nat.zero_add, Nat.mul_one, Nat.add_zero] at hS2
  repeat first | (with_reducible first | refine Wp.seq ?_ | refine Wp.reg ?_ | refine Wp.block ?_ | refine Wp.skip ?_ | refine Wp.ret ?_ | refine Wp.exit ?_ | refine Wp.label ?_ | refine Wp.condG ?_) | simp (disch := omega) only [↓RP, RQ, TS, TR, ↓reduceIte, Nat.reduceEqDiff, Nat.reduceLT, Nat.reduceLeDiff, Int.reduceLT, Int.reduceLE, Int.reduceEq, Int.reduceAdd, Int.reduceSub, Int.reduceNeg, Int.reduceToNat, Nat.reduceAdd, Nat.reduceMul, Nat.reduceSub, reduceCtorEq, RC, Int.cast_ofNat_Int, hn, g0, g1, g2, g3]
  refine Wp.drwT hmix [(3, 0)] (by kernel_rfl) (by kernel_rfl) ?_
  repeat first | (with_reducible first | refine Wp.seq ?_ | refine Wp.reg ?_ | refine Wp.block ?_ | refine Wp.skip ?_ | refine Wp.ret ?_ | refine Wp.exit ?_ | refine Wp.label ?_ | refine Wp.condG ?_) | simp (disch := omega) only [↓RP, RQ, TS, TR, ↓reduceIte, Nat.reduceEqDiff, Nat.reduceLT, Nat.reduceLeDiff, Int.reduceLT, Int.reduceLE, Int.reduceEq, Int.reduceAdd, Int.reduceSub, Int.reduceNeg, Int.reduceToNat, Nat.reduceAdd, Nat.reduceMul, Nat.reduceSub, reduceCtorEq, RC, Int.cast_ofNat_Int, hn, g0, g1, g2, g3, hS2.ldA 0 rfl]
  refine callFW_of (turned_ok N v es (hS2.base hv) he) ?_
  rintro r H3 ⟨tv, rfl, hT, hS3⟩
  have hS := hS2.trans hS3
  simp only [List.nil_append, List.cons_append, List.append_nil, List.set_cons_zero, List.set_cons_succ, setMany_cons, setMany_nil, Nat.zero_add, Nat.mul_one, Nat.add_zero] at hS
  repeat first | (with_reducible first | refine Wp.seq ?_ | refine Wp.reg ?_ | refine Wp.block ?_ | refine Wp.skip ?_ | refine Wp.ret ?_ | refine Wp.exit ?_ | refine Wp.label ?_ | refine Wp.condG ?_) | simp (disch := omega) only [↓RP, RQ, TS, TR, ↓reduceIte, Nat.reduceEqDiff, Nat.reduceLT, Nat.reduceLeDiff, Int.reduceLT, Int.reduceLE, Int.reduceEq, Int.reduceAdd, Int.reduceSub, Int.reduceNeg, Int.reduceToNat, Nat.reduceAdd, Nat.reduceMul, Nat.reduceSub, reduceCtorEq, RC, Int.cast_ofNat_Int, hn, g0, g1, g2, g3, hS.ld 1 rfl]
  refine callFW_of (distances_ok N tv (tE es) hT hN (by rw [tE_length]; exact he) (tE_val hval) t first ht (by rw [tE_length]; exact hf)) ?_
  rintro wd H4 ⟨d, hd, hdN, hS4⟩
  rw [tE_drop] at hd
  have hS := hS.trans hS4
  simp only [List.nil_append, List.cons_append, List.append_nil, List.set_cons_zero, List.set_cons_succ, setMany_cons, setMany_nil, Nat.zero_add, Nat.mul_one, Nat.add_zero] at hS
  repeat first | (with_reducible first | refine Wp.seq ?_ | refine Wp.reg ?_ | refine Wp.block ?_ | refine Wp.skip ?_ | refine Wp.ret ?_ | refine Wp.exit ?_ | refine Wp.label ?_ | refine Wp.condG ?_) | simp (disch := omega) only [↓RP, RQ, TS, TR, ↓reduceIte, Nat.reduceEqDiff, Nat.reduceLT, Nat.reduceLeDiff, Int.reduceLT, Int.reduceLE, Int.reduceEq, Int.reduceAdd, Int.reduceSub, Int.reduceNeg, Int.reduceToNat, Nat.reduceAdd, Nat.reduceMul, Nat.reduceSub, reduceCtorEq, RC, Int.cast_ofNat_Int, hn, g0, g1, g2, g3]
  refine hS.eNew 1 [.slice none 0 0] rfl rfl rfl tS29 fun D H5 hS => ?_
  repeat first | (with_reducible first | refine Wp.seq ?_ | refine Wp.reg ?_ | refine Wp.block ?_ | refine Wp.skip ?_ | refine Wp.ret ?_ | refine Wp.exit ?_ | refine Wp.label ?_ | refine Wp.condG ?_) | simp (disch := omega) only [↓RP, RQ, TS, TR, ↓reduceIte, Nat.reduceEqDiff, Nat.reduceLT, Nat.reduceLeDiff, Int.reduceLT, Int.reduceLE, Int.reduceEq, Int.reduceAdd, Int.reduceSub, Int.reduceNeg, Int.reduceToNat, Nat.reduceAdd, Nat.reduceMul, Nat.reduceSub, reduceCtorEq, RC, Int.cast_ofNat_Int, hn, g0, g1, g2, g3]
  have hwd := (hS.rd 2 rfl).cells
  refine hS.eStore 3 rfl [wd] (by rw [hwd.1]) (by simp [hwd.2.1]) tS29 (by simp) fun H6 hS => ?_
  simp only [List.nil_append, List.cons_append, List.append_nil, List.set_cons_zero, List.set_cons_succ, setMany_cons, setMany_nil, Nat.zero_add, Nat.mul_one, Nat.add_zero] at hS
  have hd1 : Sl1 H6 wd (.int .i64) d := hS.rd 2 rfl
  have hdl := hd.len
  repeat first | (with_reducible first | refine Wp.seq ?_ | refine Wp.reg ?_ | refine Wp.block ?_ | refine Wp.skip ?_ | refine Wp.ret ?_ | refine Wp.exit ?_ | refine Wp.label ?_ | refine Wp.condG ?_) | simp (disch := omega) only [↓RP, RQ, TS, TR, ↓reduceIte, Nat.reduceEqDiff, Nat.reduceLT, Nat.reduceLeDiff, Int.reduceLT, Int.reduceLE, Int.reduceEq, Int.reduceAdd, Int.reduceSub, Int.reduceNeg, Int.reduceToNat, Nat.reduceAdd, Nat.reduceMul, Nat.reduceSub, reduceCtorEq, RC, Int.cast_ofNat_Int, hn, g0, g1, g2, g3, hS2.ld 1 rfl, hS.ld 3 rfl, hd1.idx, hd1.ld 0]
  refine condW_split (fun h => ?_) (fun h => ?_)
  · repeat first | (with_reducible first | refine Wp.seq ?_ | refine Wp.reg ?_ | refine Wp.block ?_ | refine Wp.skip ?_ | refine Wp.ret ?_ | refine Wp.exit ?_ | refine Wp.label ?_ | refine Wp.condG ?_) | simp (disch := omega) only [↓RP, RQ, TS, TR, ↓reduceIte, Nat.reduceEqDiff, Nat.reduceLT, Nat.reduceLeDiff, Int.reduceLT, Int.reduceLE, Int.reduceEq, Int.reduceAdd, Int.reduceSub, Int.reduceNeg, Int.reduceToNat, Nat.reduceAdd, Nat.reduceMul, Nat.reduceSub, reduceCtorEq, RC, Int.cast_ofNat_Int, hn, g0, g1, g2, g3]
    refine ⟨d, .slice none 0 0, hd, hdN, ?_, ?_⟩
    · rw [decide_eq_false (by omega)]
    · rw [if_neg (by omega)]
      exact hS.forget.nil 0
  repeat first | (with_reducible first | refine Wp.seq ?_ | refine Wp.reg ?_ | refine Wp.block ?_ | refine Wp.skip ?_ | refine Wp.ret ?_ | refine Wp.exit ?_ | refine Wp.label ?_ | refine Wp.condG ?_) | simp (disch := omega) only [↓RP, RQ, TS, TR, ↓reduceIte, Nat.reduceEqDiff, Nat.reduceLT, Nat.reduceLeDiff, Int.reduceLT, Int.reduceLE, Int.reduceEq, Int.reduceAdd, Int.reduceSub, Int.reduceNeg, Int.reduceToNat, Nat.reduceAdd, Nat.reduceMul, Nat.reduceSub, reduceCtorEq, RC, Int.cast_ofNat_Int, hn, g0, g1, g2, g3]
  refine hS.eNew 1 [.slice none 0 0] rfl rfl rfl tS29 fun O H7 hS => ?_
  repeat first | (with_reducible first | refine Wp.seq ?_ | refine Wp.reg ?_ | refine Wp.block ?_ | refine Wp.skip ?_ | refine Wp.ret ?_ | refine Wp.exit ?_ | refine Wp.label ?_ | refine Wp.condG ?_) | simp (disch := omega) only [↓RP, RQ, TS, TR, ↓reduceIte, Nat.reduceEqDiff, Nat.reduceLT, Nat.reduceLeDiff, Int.reduceLT, Int.reduceLE, Int.reduceEq, Int.reduceAdd, Int.reduceSub, Int.reduceNeg, Int.reduceToNat, Nat.reduceAdd, Nat.reduceMul, Nat.reduceSub, reduceCtorEq, RC, Int.cast_ofNat_Int, hn, g0, g1, g2, g3]
  refine hS.eNew 1 [I 0] rfl rfl rfl tS3 fun C H8 hS => ?_
  repeat first | (with_reducible first | refine Wp.seq ?_ | refine Wp.reg ?_ | refine Wp.block ?_ | refine Wp.skip ?_ | refine Wp.ret ?_ | refine Wp.exit ?_ | refine Wp.label ?_ | refine Wp.condG ?_) | simp (disch := omega) only [↓RP, RQ, TS, TR, ↓reduceIte, Nat.reduceEqDiff, Nat.reduceLT, Nat.reduceLeDiff, Int.reduceLT, Int.reduceLE, Int.reduceEq, Int.reduceAdd, Int.reduceSub, Int.reduceNeg, Int.reduceToNat, Nat.reduceAdd, Nat.reduceMul, Nat.reduceSub, reduceCtorEq, RC, Int.cast_ofNat_Int, hn, g0, g1, g2, g3]
  refine hS.eStore 5 rfl [I s] rfl rfl tS3 (by simp) fun H9 hS => ?_
  have hS := (hS.nil 0).front
  simp only [List.nil_append, List.cons_append, List.append_nil, List.set_cons_zero, List.set_cons_succ, setMany_cons, setMany_nil, Nat.zero_add, Nat.mul_one, Nat.add_zero] at hS
  repeat first | (with_reducible first | refine Wp.seq ?_ | refine Wp.reg ?_ | refine Wp.block ?_ | refine Wp.skip ?_ | refine Wp.ret ?_ | refine Wp.exit ?_ | refine Wp.label ?_ | refine Wp.condG ?_) | simp (disch := omega) only [↓RP, RQ, TS, TR, ↓reduceIte, Nat.reduceEqDiff, Nat.reduceLT, Nat.reduceLeDiff, Int.reduceLT, Int.reduceLE, Int.reduceEq, Int.reduceAdd, Int.reduceSub, Int.reduceNeg, Int.reduceToNat, Nat.reduceAdd, Nat.reduceMul, Nat.reduceSub, reduceCtorEq, RC, Int.cast_ofNat_Int, hn, g0, g1, g2, g3]
  refine Wp.loopN (fun m l H' => l.length = 63 ∧ get l 4 = ptr A 0 2 ∧ get l 7 = ptr F 0 1 ∧ get l 10 = ptr D 0 1 ∧ get l 11 = ptr O 0 1 ∧ ∃ (C a : Nat) (ov : Value) (p : List Nat), get l 12 = ptr C 0 1 ∧ a < N ∧ d.getD a 0 = (m : Int) ∧
    p ++ pF es first d m a = pF es first d (d.getD s 0).toNat s ∧ p.length + m = (d.getD s 0).toNat ∧
    St Try.prog H H' [⟨ov, 1, nts p⟩, ⟨ptr A 0 2, 0, [I N, v]⟩, ⟨ptr F 0 1, 0, [I first]⟩, ⟨wd, 1, d.map (.int .i64)⟩, ⟨ptr D 0 1, 0, [wd]⟩, ⟨ptr O 0 1, 0, [ov]⟩, ⟨ptr C 0 1, 0, [I a]⟩]) (d.getD s 0).toNat ?_ ?_
  · repeat first | (with_reducible first | refine Wp.seq ?_ | refine Wp.reg ?_ | refine Wp.block ?_ | refine Wp.skip ?_ | refine Wp.ret ?_ | refine Wp.exit ?_ | refine Wp.label ?_ | refine Wp.condG ?_) | simp (disch := omega) only [↓RP, RQ, TS, TR, ↓reduceIte, Nat.reduceEqDiff, Nat.reduceLT, Nat.reduceLeDiff, Int.reduceLT, Int.reduceLE, Int.reduceEq, Int.reduceAdd, Int.reduceSub, Int.reduceNeg, Int.reduceToNat, Nat.reduceAdd, Nat.reduceMul, Nat.reduceSub, reduceCtorEq, RC, Int.cast_ofNat_Int, hn, g0, g1, g2, g3]
    exact ⟨C, s, _, [], rfl, hs, by omega, rfl, by simp, hS⟩
  clear hS hS2 hS3 hS4 hn g0 g1 g2 g3 hd1 hT
  rintro m l H' ⟨hn, g4, g7, g10, g11, C, a, ov, p, g12, haN, hda, hp, hpl, hS⟩
  have hd1 : Sl1 H' wd (.int .i64) d := hS.rd 3 rfl
  repeat first | (with_reducible first | refine Wp.seq ?_ | refine Wp.reg ?_ | refine Wp.block ?_ | refine Wp.skip ?_ | refine Wp.ret ?_ | refine Wp.exit ?_ | refine Wp.label ?_ | refine Wp.condG ?_) | simp (disch := omega) only [↓RP, RQ, TS, TR, ↓reduceIte, Nat.reduceEqDiff, Nat.reduceLT, Nat.reduceLeDiff, Int.reduceLT, Int.reduceLE, Int.reduceEq, Int.reduceAdd, Int.reduceSub, Int.reduceNeg, Int.reduceToNat, Nat.reduceAdd, Nat.reduceMul, Nat.reduceSub, reduceCtorEq, RC, Int.cast_ofNat_Int, hn, g4, g7, g10, g11, g12, hS.ld 4 rfl, hS.ld 6 rfl, hd1.idx, hd1.ld 0]
  refine condW_split (fun h3 => ?_) (fun h3 => ?_)
  · repeat first | (with_reducible first | refine Wp.seq ?_ | refine Wp.reg ?_ | refine Wp.block ?_ | refine Wp.skip ?_ | refine Wp.ret ?_ | refine Wp.exit ?_ | refine Wp.label ?_ | refine Wp.condG ?_) | simp (disch := omega) only [↓RP, RQ, TS, TR, ↓reduceIte, Nat.reduceEqDiff, Nat.reduceLT, Nat.reduceLeDiff, Int.reduceLT, Int.reduceLE, Int.reduceEq, Int.reduceAdd, Int.reduceSub, Int.reduceNeg, Int.reduceToNat, Nat.reduceAdd, Nat.reduceMul, Nat.reduceSub, reduceCtorEq, RC, Int.cast_ofNat_Int, hn, g4, g7, g10, g11, g12, hS.ldA 1 rfl, hS.ld 6 rfl]
    refine callFW_of (out1_ok N a v hv.one) ?_
    rintro r H2 ⟨Ag, An, rfl, hS2⟩
    have hS := hS.trans hS2
    simp only [List.nil_append, List.cons_append, List.append_nil, List.set_cons_zero, List.set_cons_succ, setMany_cons, setMany_nil, Nat.zero_add, Nat.mul_one, Nat.add_zero] at hS
    repeat first | (with_reducible first | refine Wp.seq ?_ | refine Wp.reg ?_ | refine Wp.block ?_ | refine Wp.skip ?_ | refine Wp.ret ?_ | refine Wp.exit ?_ | refine Wp.label ?_ | refine Wp.condG ?_) | simp (disch := omega) only [↓RP, RQ, TS, TR, ↓reduceIte, Nat.reduceEqDiff, Nat.reduceLT, Nat.reduceLeDiff, Int.reduceLT, Int.reduceLE, Int.reduceEq, Int.reduceAdd, Int.reduceSub, Int.reduceNeg, Int.reduceToNat, Nat.reduceAdd, Nat.reduceMul, Nat.reduceSub, reduceCtorEq, RC, Int.cast_ofNat_Int, hn, g4, g7, g10, g11, g12]
    refine Wp.slots fun l' hl' => ?_
    have hn' : l'.length = 63 := by rw [hl']; simp (disch := omega) only [↓RP, RQ, TS, TR, ↓reduceIte, Nat.reduceEqDiff, Nat.reduceLT, Nat.reduceLeDiff, Int.reduceLT, Int.reduceLE, Int.reduceEq, Int.reduceAdd, Int.reduceSub, Int.reduceNeg, Int.reduceToNat, Nat.reduceAdd, Nat.reduceMul, Nat.reduceSub, reduceCtorEq, RC, Int.cast_ofNat_Int, hn]
    have g4' : get l' 4 = ptr A 0 2 := by rw [hl']; simp (disch := omega) only [↓RP, RQ, TS, TR, ↓reduceIte, Nat.reduceEqDiff, Nat.reduceLT, Nat.reduceLeDiff, Int.reduceLT, Int.reduceLE, Int.reduceEq, Int.reduceAdd, Int.reduceSub, Int.reduceNeg, Int.reduceToNat, Nat.reduceAdd, Nat.reduceMul, Nat.reduceSub, reduceCtorEq, RC, Int.cast_ofNat_Int, hn, g4]
    have g7' : get l' 7 = ptr F 0 1 := by rw [hl']; simp (disch := omega) only [↓RP, RQ, TS, TR, ↓reduceIte, Nat.reduceEqDiff, Nat.reduceLT, Nat.reduceLeDiff, Int.reduceLT, Int.reduceLE, Int.reduceEq, Int.reduceAdd, Int.reduceSub, Int.reduceNeg, Int.reduceToNat, Nat.reduceAdd, Nat.reduceMul, Nat.reduceSub, reduceCtorEq, RC, Int.cast_ofNat_Int, hn, g7]
    have g10' : get l' 10 = ptr D 0 1 := by rw [hl']; simp (disch := omega) only [↓RP, RQ, TS, TR, ↓reduceIte, Nat.reduceEqDiff, Nat.reduceLT, Nat.reduceLeDiff, Int.reduceLT, Int.reduceLE, Int.reduceEq, Int.reduceAdd, Int.reduceSub, Int.reduceNeg, Int.reduceToNat, Nat.reduceAdd, Nat.reduceMul, Nat.reduceSub, reduceCtorEq, RC, Int.cast_ofNat_Int, hn, g10]
    have g11' : get l' 11 = ptr O 0 1 := by rw [hl']; simp (disch := omega) only [↓RP, RQ, TS, TR, ↓reduceIte, Nat.reduceEqDiff, Nat.reduceLT, Nat.reduceLeDiff, Int.reduceLT, Int.reduceLE, Int.reduceEq, Int.reduceAdd, Int.reduceSub, Int.reduceNeg, Int.reduceToNat, Nat.reduceAdd, Nat.reduceMul, Nat.reduceSub, reduceCtorEq, RC, Int.cast_ofNat_Int, hn, g11]
    have g12' : get l' 12 = ptr C 0 1 := by rw [hl']; simp (disch := omega) only [↓RP, RQ, TS, TR, ↓reduceIte, Nat.reduceEqDiff, Nat.reduceLT, Nat.reduceLeDiff, Int.reduceLT, Int.reduceLE, Int.reduceEq, Int.reduceAdd, Int.reduceSub, Int.reduceNeg, Int.reduceToNat, Nat.reduceAdd, Nat.reduceMul, Nat.reduceSub, reduceCtorEq, RC, Int.cast_ofNat_Int, hn, g12]
    have g33' : get l' 33 = .func (.func 50) #[] [ptr Ag 0 2, ptr An 0 1].toArray := by rw [hl']; simp (disch := omega) only [↓RP, RQ, TS, TR, ↓reduceIte, Nat.reduceEqDiff, Nat.reduceLT, Nat.reduceLeDiff, Int.reduceLT, Int.reduceLE, Int.reduceEq, Int.reduceAdd, Int.reduceSub, Int.reduceNeg, Int.reduceToNat, Nat.reduceAdd, Nat.reduceMul, Nat.reduceSub, reduceCtorEq, RC, Int.cast_ofNat_Int, hn]
    clear hl' hn g4 g7 g10 g11 g12 hS2 hd1
    obtain ⟨m', rfl⟩ : ∃ m', m = m' + 1 := ⟨m - 1, by omega⟩
    have hdaN := hdN a haN
    have hdsN := hdN s hs
    refine Wp.rangeR g33' fun r hst hpd htm hps has hbd => ?_
    have hreq : ({ r with state := .ready, pending := none } : Loop) = r := by
      cases r
      simp only at hst hpd
      subst hst hpd
      rfl
    have hLp := Lp.enter hS r
    generalize H2.cons (.loop r) = Hc at hLp ⊢
    generalize H2.length = L at hLp ⊢
    clear hS
    refine (out_ok N a v es he Ag An (.func (.yield L) #[] #[])
      (fun j H1 => Lp Try.prog H L r H1 [⟨ov, 1, nts p⟩, ⟨ptr A 0 2, 0, [I N, v]⟩, ⟨ptr F 0 1, 0, [I first]⟩, ⟨wd, 1, d.map (.int .i64)⟩, ⟨ptr D 0 1, 0, [wd]⟩, ⟨ptr O 0 1, 0, [ov]⟩, ⟨ptr C 0 1, 0, [I a]⟩, ⟨ptr Ag 0 2, 0, [I N, v]⟩, ⟨ptr An 0 1, 0, [I a]⟩] ∧
        ∀ i, first ≤ i → i < j → mt d m' a (es.getD i (0, 0)) = false)
      (fun H1 => ∃ ov', Lp Try.prog H L { r with state := .done, pending := some (.exit 2) } H1 [⟨ov', 1, nts (p ++ [pk es first d m' a])⟩, ⟨ptr A 0 2, 0, [I N, v]⟩, ⟨ptr F 0 1, 0, [I first]⟩, ⟨wd, 1, d.map (.int .i64)⟩, ⟨ptr D 0 1, 0, [wd]⟩, ⟨ptr O 0 1, 0, [ov']⟩,
        ⟨ptr C 0 1, 0, [I (es.getD (pk es first d m' a) (0, 0)).2]⟩, ⟨ptr Ag 0 2, 0, [I N, v]⟩, ⟨ptr An 0 1, 0, [I a]⟩]) ⟨hLp, fun i _ hi => absurd hi (Nat.not_lt_zero _)⟩ ?_ ?_ ?_ ?_).mono ?_
    · rintro j H1 ⟨h1, _⟩
      exact ⟨h1.st.var 7 rfl, h1.st.var 8 rfl, h1.st.base hv⟩
    · rintro j H1 H2 ⟨h1, h2⟩ h3
      exact ⟨by simpa using h1.ext h3, h2⟩
    · rintro j H1 hj hne ⟨h1, h2⟩
      refine ⟨h1, fun i hi1 hi2 => ?_⟩
      by_cases e : i = j
      · subst e
        rw [← Bool.not_eq_true, mt_iff]
        exact fun hh => hne hh.1
      · exact h2 i hi1 (by omega)
    · rintro j H1 hj hja ⟨h1, h2⟩
      refine callW_yield h1.get (by rw [hps]; rfl) hst ?_
      refine Wp.of_eq (l := put l' (some 34) (I j)) has (by rw [hps, htm]; exact (setL_eq ..).symm) ?_
      repeat first | (with_reducible first | refine Wp.seq ?_ | refine Wp.reg ?_ | refine Wp.block ?_ | refine Wp.skip ?_ | refine Wp.ret ?_ | refine Wp.exit ?_ | refine Wp.label ?_ | refine Wp.condG ?_) | simp (disch := omega) only [↓RP, RQ, TS, TR, ↓reduceIte, Nat.reduceEqDiff, Nat.reduceLT, Nat.reduceLeDiff, Int.reduceLT, Int.reduceLE, Int.reduceEq, Int.reduceAdd, Int.reduceSub, Int.reduceNeg, Int.reduceToNat, Nat.reduceAdd, Nat.reduceMul, Nat.reduceSub, reduceCtorEq, RC, Int.cast_ofNat_Int, hn']
      refine ⟨r, h1.get, hst, ?_⟩
      have hB := h1.set (fun h => h) { r with state := .busy }
      generalize hset H1 L (.loop { r with state := .busy }) = Hb at hB ⊢
      refine Wp.of_eq hbd rfl ?_
      have hS := hB.st.rebase
      have hv1 : Sl2 Hb v _ _ es := hB.st.base hv
      have hd1 : Sl1 Hb wd (.int .i64) d := hS.rd 3 rfl
      have hm2 := (hval _ (getD_mem (0, 0) hj)).2
      repeat first | (with_reducible first | refine Wp.seq ?_ | refine Wp.reg ?_ | refine Wp.block ?_ | refine Wp.skip ?_ | refine Wp.ret ?_ | refine Wp.exit ?_ | refine Wp.label ?_ | refine Wp.condG ?_) | with_reducible refine Wp.drw hmix (by kernel_rfl) ?_ | simp (disch := omega) only [↓RP, RQ, TS, TR, ↓reduceIte, Nat.reduceEqDiff, Nat.reduceLT, Nat.reduceLeDiff, Int.reduceLT, Int.reduceLE, Int.reduceEq, Int.reduceAdd, Int.reduceSub, Int.reduceNeg, Int.reduceToNat, Nat.reduceAdd, Nat.reduceMul, Nat.reduceSub, reduceCtorEq, RC, Int.cast_ofNat_Int, hn', g4', g7', g10', g11', g12', hS.ld 1 rfl, hS.ld 2 rfl, hS.ld 4 rfl, hS.ld 6 rfl, hv1.idx, hv1.fld, hv1.ld1 (0, 0)]
      refine letG_split (fun h4 => ?_) (fun h4 => ?_)
      · have hsub : IntKind.wrap .i64 (d.getD a 0 - 1) = m' := by rw [hda, wrap_fit _ (by omega) (by omega)]; omega
        repeat first | (with_reducible first | refine Wp.seq ?_ | refine Wp.reg ?_ | refine Wp.block ?_ | refine Wp.skip ?_ | refine Wp.ret ?_ | refine Wp.exit ?_ | refine Wp.label ?_ | refine Wp.condG ?_) | with_reducible refine Wp.drw hmix (by kernel_rfl) ?_ | simp (disch := omega) only [↓RP, RQ, TS, TR, ↓reduceIte, Nat.reduceEqDiff, Nat.reduceLT, Nat.reduceLeDiff, Int.reduceLT, Int.reduceLE, Int.reduceEq, Int.reduceAdd, Int.reduceSub, Int.reduceNeg, Int.reduceToNat, Nat.reduceAdd, Nat.reduceMul, Nat.reduceSub, reduceCtorEq, RC, Int.cast_ofNat_Int, hn', g4', g7', g10', g11', g12', h4, hS.ld 1 rfl, hS.ld 2 rfl, hS.ld 4 rfl, hS.ld 6 rfl, hd1.idx, hd1.ld 0, hsub]
        refine condW_split (fun h5 => ?_) (fun h5 => ?_)
        · have hpk := pk_eq es first d m' a j (by omega) hj ((mt_iff ..).2 ⟨hja, h5⟩) h2
          repeat first | (with_reducible first | refine Wp.seq ?_ | refine Wp.reg ?_ | refine Wp.block ?_ | refine Wp.skip ?_ | refine Wp.ret ?_ | refine Wp.exit ?_ | refine Wp.label ?_ | refine Wp.condG ?_) | simp (disch := omega) only [↓RP, RQ, TS, TR, ↓reduceIte, Nat.reduceEqDiff, Nat.reduceLT, Nat.reduceLeDiff, Int.reduceLT, Int.reduceLE, Int.reduceEq, Int.reduceAdd, Int.reduceSub, Int.reduceNeg, Int.reduceToNat, Nat.reduceAdd, Nat.reduceMul, Nat.reduceSub, reduceCtorEq, RC, Int.cast_ofNat_Int, hn', g4', g7', g10', g11', g12', hS.ld 5 rfl]
          refine hS.eSlice [I j] tP29 tF29 rfl rfl (by simp [Value.cells]) rfl rfl (by decide) (by decide) fun x H5 hS => ?_
          repeat first | (with_reducible first | refine Wp.seq ?_ | refine Wp.reg ?_ | refine Wp.block ?_ | refine Wp.skip ?_ | refine Wp.ret ?_ | refine Wp.exit ?_ | refine Wp.label ?_ | refine Wp.condG ?_) | simp (disch := omega) only [↓RP, RQ, TS, TR, ↓reduceIte, Nat.reduceEqDiff, Nat.reduceLT, Nat.reduceLeDiff, Int.reduceLT, Int.reduceLE, Int.reduceEq, Int.reduceAdd, Int.reduceSub, Int.reduceNeg, Int.reduceToNat, Nat.reduceAdd, Nat.reduceMul, Nat.reduceSub, reduceCtorEq, RC, Int.cast_ofNat_Int, hn', g4', g7', g10', g11', g12']
          refine hS.eAppend 0 rfl (hS.rd 9 rfl) tP29 (by simp only [nts, List.length_map, List.length_cons, List.length_nil]; omega) fun ov' H6 hS => ?_
          simp only [List.nil_append, List.cons_append, List.append_nil, List.set_cons_zero, List.set_cons_succ, setMany_cons, setMany_nil, Nat.zero_add, Nat.mul_one, Nat.add_zero] at hS
          have hw := (hS.rd 0 rfl).cells
          repeat first | (with_reducible first | refine Wp.seq ?_ | refine Wp.reg ?_ | refine Wp.block ?_ | refine Wp.skip ?_ | refine Wp.ret ?_ | refine Wp.exit ?_ | refine Wp.label ?_ | refine Wp.condG ?_) | simp (disch := omega) only [↓RP, RQ, TS, TR, ↓reduceIte, Nat.reduceEqDiff, Nat.reduceLT, Nat.reduceLeDiff, Int.reduceLT, Int.reduceLE, Int.reduceEq, Int.reduceAdd, Int.reduceSub, Int.reduceNeg, Int.reduceToNat, Nat.reduceAdd, Nat.reduceMul, Nat.reduceSub, reduceCtorEq, RC, Int.cast_ofNat_Int, hn', g4', g7', g10', g11', g12']
          refine hS.eStore 5 rfl [ov'] (by rw [hw.1]) (by simp [hw.2.1]) tS29 (by simp) fun H7 hS => ?_
          simp only [List.nil_append, List.cons_append, List.append_nil, List.set_cons_zero, List.set_cons_succ, setMany_cons, setMany_nil, Nat.zero_add, Nat.mul_one, Nat.add_zero] at hS
          repeat first | (with_reducible first | refine Wp.seq ?_ | refine Wp.reg ?_ | refine Wp.block ?_ | refine Wp.skip ?_ | refine Wp.ret ?_ | refine Wp.exit ?_ | refine Wp.label ?_ | refine Wp.condG ?_) | simp (disch := omega) only [↓RP, RQ, TS, TR, ↓reduceIte, Nat.reduceEqDiff, Nat.reduceLT, Nat.reduceLeDiff, Int.reduceLT, Int.reduceLE, Int.reduceEq, Int.reduceAdd, Int.reduceSub, Int.reduceNeg, Int.reduceToNat, Nat.reduceAdd, Nat.reduceMul, Nat.reduceSub, reduceCtorEq, RC, Int.cast_ofNat_Int, hn', g4', g7', g10', g11', g12']
          refine hS.eStore 6 rfl [_] rfl rfl tS3 (by simp) fun H8 hS => ?_
          simp only [List.nil_append, List.cons_append, List.append_nil, List.set_cons_zero, List.set_cons_succ, setMany_cons, setMany_nil, Nat.zero_add, Nat.mul_one, Nat.add_zero] at hS
          repeat first | (with_reducible first | refine Wp.seq ?_ | refine Wp.reg ?_ | refine Wp.block ?_ | refine Wp.skip ?_ | refine Wp.ret ?_ | refine Wp.exit ?_ | refine Wp.label ?_ | refine Wp.condG ?_) | simp (disch := omega) only [↓RP, RQ, TS, TR, ↓reduceIte, Nat.reduceEqDiff, Nat.reduceLT, Nat.reduceLeDiff, Int.reduceLT, Int.reduceLE, Int.reduceEq, Int.reduceAdd, Int.reduceSub, Int.reduceNeg, Int.reduceToNat, Nat.reduceAdd, Nat.reduceMul, Nat.reduceSub, reduceCtorEq, RC, Int.cast_ofNat_Int, hn', g4', g7', g10', g11', g12']
          have hB2 := (hB.body hS).sub (os' := [⟨ov', 1, nts (p ++ [pk es first d m' a])⟩, ⟨ptr A 0 2, 0, [I N, v]⟩, ⟨ptr F 0 1, 0, [I first]⟩, ⟨wd, 1, d.map (.int .i64)⟩, ⟨ptr D 0 1, 0, [wd]⟩, ⟨ptr O 0 1, 0, [ov']⟩,
            ⟨ptr C 0 1, 0, [I (es.getD (pk es first d m' a) (0, 0)).2]⟩, ⟨ptr Ag 0 2, 0, [I N, v]⟩, ⟨ptr An 0 1, 0, [I a]⟩]) (by rw [hpk]; simp [nts])
          exact ⟨_, hB2.get, false, rfl, (fun h => by cases h), fun _ => ⟨ov', hB2.set (fun h => h) _⟩⟩
        · repeat first | (with_reducible first | refine Wp.seq ?_ | refine Wp.reg ?_ | refine Wp.block ?_ | refine Wp.skip ?_ | refine Wp.ret ?_ | refine Wp.exit ?_ | refine Wp.label ?_ | refine Wp.condG ?_) | simp (disch := omega) only [↓RP, RQ, TS, TR, ↓reduceIte, Nat.reduceEqDiff, Nat.reduceLT, Nat.reduceLeDiff, Int.reduceLT, Int.reduceLE, Int.reduceEq, Int.reduceAdd, Int.reduceSub, Int.reduceNeg, Int.reduceToNat, Nat.reduceAdd, Nat.reduceMul, Nat.reduceSub, reduceCtorEq, RC, Int.cast_ofNat_Int, hn']
          have hB2 := hB.body hS
          refine ⟨_, hB2.get, true, rfl, (fun _ => ⟨?_, ?_⟩), (fun h => by cases h)⟩
          · have := hB2.set (fun h => h) r
            rw [← hreq] at this
            exact hreq ▸ this
          · intro i hi1 hi2
            by_cases e : i = j
            · subst e
              rw [← Bool.not_eq_true, mt_iff]
              exact fun hh => h5 hh.2
            · exact h2 i hi1 (by omega)
      · repeat first | (with_reducible first | refine Wp.seq ?_ | refine Wp.reg ?_ | refine Wp.block ?_ | refine Wp.skip ?_ | refine Wp.ret ?_ | refine Wp.exit ?_ | refine Wp.label ?_ | refine Wp.condG ?_) | simp (disch := omega) only [↓RP, RQ, TS, TR, ↓reduceIte, Nat.reduceEqDiff, Nat.reduceLT, Nat.reduceLeDiff, Int.reduceLT, Int.reduceLE, Int.reduceEq, Int.reduceAdd, Int.reduceSub, Int.reduceNeg, Int.reduceToNat, Nat.reduceAdd, Nat.reduceMul, Nat.reduceSub, reduceCtorEq, RC, Int.cast_ofNat_Int, hn', h4]
        have hB2 := hB.body hS
        refine ⟨_, hB2.get, true, rfl, (fun _ => ⟨?_, ?_⟩), (fun h => by cases h)⟩
        · have := hB2.set (fun h => h) r
          rw [← hreq] at this
          exact hreq ▸ this
        · intro i hi1 hi2
          by_cases e : i = j
          · omega
          · exact h2 i hi1 (by omega)
    · rintro _ H4 (⟨h1, h2⟩ | ⟨ov', h1⟩)
      · obtain ⟨j, hj1, hj2, hj3⟩ := nearer hval hd a m' haN hda
        rw [h2 j hj1 hj2] at hj3
        cases hj3
      · refine ⟨_, h1.get, (fun h => by cases h), (fun h => by cases h), ?_⟩
        intro c hc
        obtain rfl : Code.exit 2 = c := Option.some.inj hc
        refine Wp.exit ?_
        have hB := h1.set (fun h => h) { r with state := .exhausted, pending := some (.exit 2) }
        have hS := hB.st
        show blockQ 2 _ (.exit 2) l' (hset H4 L (.loop { r with state := .exhausted, pending := some (.exit 2) }))
        generalize hset H4 L (.loop { r with state := .exhausted, pending := some (.exit 2) }) = H5 at hS ⊢
        repeat first | (with_reducible first | refine Wp.seq ?_ | refine Wp.reg ?_ | refine Wp.block ?_ | refine Wp.skip ?_ | refine Wp.ret ?_ | refine Wp.exit ?_ | refine Wp.label ?_ | refine Wp.condG ?_) | simp (disch := omega) only [↓RP, RQ, TS, TR, ↓reduceIte, Nat.reduceEqDiff, Nat.reduceLT, Nat.reduceLeDiff, Int.reduceLT, Int.reduceLE, Int.reduceEq, Int.reduceAdd, Int.reduceSub, Int.reduceNeg, Int.reduceToNat, Nat.reduceAdd, Nat.reduceMul, Nat.reduceSub, reduceCtorEq, RC, Int.cast_ofNat_Int, hn', g4', g7', g10', g11', g12', hS.ld 6 rfl]
        refine hS.eNew 1 [I 0] rfl rfl rfl tS3 fun C' H6 hS => ?_
        repeat first | (with_reducible first | refine Wp.seq ?_ | refine Wp.reg ?_ | refine Wp.block ?_ | refine Wp.skip ?_ | refine Wp.ret ?_ | refine Wp.exit ?_ | refine Wp.label ?_ | refine Wp.condG ?_) | simp (disch := omega) only [↓RP, RQ, TS, TR, ↓reduceIte, Nat.reduceEqDiff, Nat.reduceLT, Nat.reduceLeDiff, Int.reduceLT, Int.reduceLE, Int.reduceEq, Int.reduceAdd, Int.reduceSub, Int.reduceNeg, Int.reduceToNat, Nat.reduceAdd, Nat.reduceMul, Nat.reduceSub, reduceCtorEq, RC, Int.cast_ofNat_Int, hn', g4', g7', g10', g11', g12']
        refine hS.eStore 9 rfl [I (es.getD (pk es first d m' a) (0, 0)).2] rfl rfl tS3 (by simp) fun H7 hS => ?_
        simp only [List.nil_append, List.cons_append, List.append_nil, List.set_cons_zero, List.set_cons_succ, setMany_cons, setMany_nil, Nat.zero_add, Nat.mul_one, Nat.add_zero] at hS
        repeat first | (with_reducible first | refine Wp.seq ?_ | refine Wp.reg ?_ | refine Wp.block ?_ | refine Wp.skip ?_ | refine Wp.ret ?_ | refine Wp.exit ?_ | refine Wp.label ?_ | refine Wp.condG ?_) | simp (disch := omega) only [↓RP, RQ, TS, TR, ↓reduceIte, Nat.reduceEqDiff, Nat.reduceLT, Nat.reduceLeDiff, Int.reduceLT, Int.reduceLE, Int.reduceEq, Int.reduceAdd, Int.reduceSub, Int.reduceNeg, Int.reduceToNat, Nat.reduceAdd, Nat.reduceMul, Nat.reduceSub, reduceCtorEq, RC, Int.cast_ofNat_Int, hn', g4', g7', g10', g11', g12']
        obtain ⟨k1, k2, k3, _⟩ := pk_spec es first d m' a (nearer hval hd a m' haN hda)
        have hmt := (mt_iff ..).1 k3
        have hk2 := (hval _ (getD_mem (0, 0) k2)).2
        refine ⟨m', by omega, C', _, ov', p ++ [pk es first d m' a], rfl, hk2, hmt.2, ?_, ?_, hS.sub ?_⟩
        · rw [← hp, List.append_assoc]
          rfl
        · rw [List.length_append]
          simp only [List.length_cons, List.length_nil]
          omega
        · exact .cons_cons _ (.cons_cons _ (.cons_cons _ (.cons_cons _ (.cons_cons _ (.cons_cons _ (.cons _ (.cons _ (.cons _ (.refl _)))))))))
  · have ho := hS.rd 0 rfl
    repeat first | (with_reducible first | refine Wp.seq ?_ | refine Wp.reg ?_ | refine Wp.block ?_ | refine Wp.skip ?_ | refine Wp.ret ?_ | refine Wp.exit ?_ | refine Wp.label ?_ | refine Wp.condG ?_) | simp (disch := omega) only [↓RP, RQ, TS, TR, ↓reduceIte, Nat.reduceEqDiff, Nat.reduceLT, Nat.reduceLeDiff, Int.reduceLT, Int.reduceLE, Int.reduceEq, Int.reduceAdd, Int.reduceSub, Int.reduceNeg, Int.reduceToNat, Nat.reduceAdd, Nat.reduceMul, Nat.reduceSub, reduceCtorEq, RC, Int.cast_ofNat_Int, hn, g4, g7, g10, g11, g12, hS.ld 5 rfl, ho.noTuple]
    have hm : m = 0 := by omega
    subst hm
    refine ⟨d, ov, hd, hdN, ?_, ?_⟩
    · rw [decide_eq_true (by omega)]
    · rw [if_pos (by omega), ← hp]
      simp only [pF, List.append_nil]
      exact hS.sub (by simp)
end Go.Ds
/-
  Contracts: Closure, Reverse.
-/
namespace Go.Ds
open Go.Proofs Go.Plain
variable {H : Heap}

theorem tR27 (l : List Value) (H : Heap) : resultsD Try.prog Try.f27 l H = (ldW (aggP Try.prog 27) (sizeP Try.prog 27) H (get l 2)).bind fun v => if (noTuple v && (noTuple (get l 3) && true)) = true then some (.tuple #[v, get l 3]) else none := by
  show (Option.bind (Option.bind (loadD Try.prog H 27 (get l 2)) fun v => some [v, get l 3]) fun vs => _) = _
  rw [loadD_eq]
  cases ldW _ _ H (get l 2) <;> rfl
theorem tR28 (l : List Value) (H : Heap) : resultsD Try.prog Try.f28 l H = (ldW (aggP Try.prog 27) (sizeP Try.prog 27) H (get l 2)).bind fun v => if (noTuple v && (noTuple (get l 3) && true)) = true then some (.tuple #[v, get l 3]) else none := by
  show (Option.bind (Option.bind (loadD Try.prog H 27 (get l 2)) fun v => some [v, get l 3]) fun vs => _) = _
  rw [loadD_eq]
  cases ldW _ _ H (get l 2) <;> rfl
theorem tB27n : builtV Try.prog 27 [] = some (.agg #[.int .i64 0, .slice none 0 0]) := by kernel_rfl

theorem turned2_ok (N : Nat) (v : Value) (es : List (Nat × Nat)) (hv : Eg H v es) (he : es.length ≤ 1000) : Fn Try.prog 44 [.agg #[I N, v]] H fun r H' => ∃ w, r = .agg #[I N, w] ∧ St Try.prog H H' [⟨w, 2, eg (tE es)⟩] := by
  refine Fn.of_wp (fn := Try.f44) rfl rfl (by kernel_rfl) fun l hl => ?_
  have hn : l.length = 28 := by rw [hl]; rfl
  have g0 : get l 0 = .agg #[I N, v] := by rw [hl]; rfl
  clear hl
  repeat first | (with_reducible first | refine Wp.seq ?_ | refine Wp.reg ?_ | refine Wp.block ?_ | refine Wp.skip ?_ | refine Wp.ret ?_ | refine Wp.exit ?_ | refine Wp.label ?_ | refine Wp.condG ?_) | simp (disch := omega) only [↓RP, RQ, TS, TR, ↓reduceIte, Nat.reduceEqDiff, Nat.reduceLT, Nat.reduceLeDiff, Int.reduceLT, Int.reduceLE, Int.reduceEq, Int.reduceAdd, Int.reduceSub, Int.reduceNeg, Int.reduceToNat, Nat.reduceAdd, Nat.reduceMul, Nat.reduceSub, reduceCtorEq, RC, Int.cast_ofNat_Int, hn, g0]
  refine (St.refl _ H).eNew 2 [I N, v] rfl rfl (by simp [hv.one]; rfl) tS27 fun A H1 hS => ?_
  repeat first | (with_reducible first | refine Wp.seq ?_ | refine Wp.reg ?_ | refine Wp.block ?_ | refine Wp.skip ?_ | refine Wp.ret ?_ | refine Wp.exit ?_ | refine Wp.label ?_ | refine Wp.condG ?_) | simp (disch := omega) only [↓RP, RQ, TS, TR, ↓reduceIte, Nat.reduceEqDiff, Nat.reduceLT, Nat.reduceLeDiff, Int.reduceLT, Int.reduceLE, Int.reduceEq, Int.reduceAdd, Int.reduceSub, Int.reduceNeg, Int.reduceToNat, Nat.reduceAdd, Nat.reduceMul, Nat.reduceSub, reduceCtorEq, RC, Int.cast_ofNat_Int, hn, g0]
  refine hS.eNew 2 [I 0, .slice none 0 0] rfl rfl rfl tS27 fun B H2 hS => ?_
  repeat first | (with_reducible first | refine Wp.seq ?_ | refine Wp.reg ?_ | refine Wp.block ?_ | refine Wp.skip ?_ | refine Wp.ret ?_ | refine Wp.exit ?_ | refine Wp.label ?_ | refine Wp.condG ?_) | simp (disch := omega) only [↓RP, RQ, TS, TR, ↓reduceIte, Nat.reduceEqDiff, Nat.reduceLT, Nat.reduceLeDiff, Int.reduceLT, Int.reduceLE, Int.reduceEq, Int.reduceAdd, Int.reduceSub, Int.reduceNeg, Int.reduceToNat, Nat.reduceAdd, Nat.reduceMul, Nat.reduceSub, reduceCtorEq, RC, Int.cast_ofNat_Int, hn, g0, hS.ld 0 rfl]
  refine hS.eNew 2 [I 0, .slice none 0 0] rfl rfl rfl tS27 fun C H3 hS => ?_
  repeat first | (with_reducible first | refine Wp.seq ?_ | refine Wp.reg ?_ | refine Wp.block ?_ | refine Wp.skip ?_ | refine Wp.ret ?_ | refine Wp.exit ?_ | refine Wp.label ?_ | refine Wp.condG ?_) | simp (disch := omega) only [↓RP, RQ, TS, TR, ↓reduceIte, Nat.reduceEqDiff, Nat.reduceLT, Nat.reduceLeDiff, Int.reduceLT, Int.reduceLE, Int.reduceEq, Int.reduceAdd, Int.reduceSub, Int.reduceNeg, Int.reduceToNat, Nat.reduceAdd, Nat.reduceMul, Nat.reduceSub, reduceCtorEq, RC, Int.cast_ofNat_Int, hn, g0]
  refine hS.eStore 2 rfl [_, _] rfl rfl tS27 (by simp) fun H4 hS => ?_
  have hS := hS.nil 1
  simp only [List.nil_append, List.cons_append, List.append_nil, List.set_cons_zero, List.set_cons_succ, setMany_cons, setMany_nil, Nat.zero_add, Nat.mul_one, Nat.add_zero] at hS
  have hv1 : Sl2 H4 v _ _ es := hS.base hv
  repeat first | (with_reducible first | refine Wp.seq ?_ | refine Wp.reg ?_ | refine Wp.block ?_ | refine Wp.skip ?_ | refine Wp.ret ?_ | refine Wp.exit ?_ | refine Wp.label ?_ | refine Wp.condG ?_) | simp (disch := omega) only [↓RP, RQ, TS, TR, ↓reduceIte, Nat.reduceEqDiff, Nat.reduceLT, Nat.reduceLeDiff, Int.reduceLT, Int.reduceLE, Int.reduceEq, Int.reduceAdd, Int.reduceSub, Int.reduceNeg, Int.reduceToNat, Nat.reduceAdd, Nat.reduceMul, Nat.reduceSub, reduceCtorEq, RC, Int.cast_ofNat_Int, hn, g0, hS.ld 0 rfl, hv1.len]
  refine Wp.loopN (fun n l H' => l.length = 28 ∧ get l 2 = ptr B 0 2 ∧ get l 3 = ptr C 0 2 ∧ get l 10 = v ∧ get l 11 = I es.length ∧ ∃ (i : Nat) (w : Value), n + i = es.length ∧ get l 12 = I i ∧
    St Try.prog H H' [⟨ptr A 0 2, 0, [I N, v]⟩, ⟨ptr B 0 2, 0, [I 0, .slice none 0 0]⟩, ⟨ptr C 0 2, 0, [I N, w]⟩, ⟨w, 2, eg (tE (es.take i))⟩]) es.length ?_ ?_
  · repeat first | (with_reducible first | refine Wp.seq ?_ | refine Wp.reg ?_ | refine Wp.block ?_ | refine Wp.skip ?_ | refine Wp.ret ?_ | refine Wp.exit ?_ | refine Wp.label ?_ | refine Wp.condG ?_) | simp (disch := omega) only [↓RP, RQ, TS, TR, ↓reduceIte, Nat.reduceEqDiff, Nat.reduceLT, Nat.reduceLeDiff, Int.reduceLT, Int.reduceLE, Int.reduceEq, Int.reduceAdd, Int.reduceSub, Int.reduceNeg, Int.reduceToNat, Nat.reduceAdd, Nat.reduceMul, Nat.reduceSub, reduceCtorEq, RC, Int.cast_ofNat_Int, hn, g0]
    exact ⟨0, _, rfl, rfl, hS⟩
  clear hS hn g0 hv1
  rintro n l H' ⟨hn, g2, g3, g10, g11, i, w, hi, g12, hS⟩
  have hv1 : Sl2 H' v _ _ es := hS.base hv
  repeat first | (with_reducible first | refine Wp.seq ?_ | refine Wp.reg ?_ | refine Wp.block ?_ | refine Wp.skip ?_ | refine Wp.ret ?_ | refine Wp.exit ?_ | refine Wp.label ?_ | refine Wp.condG ?_) | simp (disch := omega) only [↓RP, RQ, TS, TR, ↓reduceIte, Nat.reduceEqDiff, Nat.reduceLT, Nat.reduceLeDiff, Int.reduceLT, Int.reduceLE, Int.reduceEq, Int.reduceAdd, Int.reduceSub, Int.reduceNeg, Int.reduceToNat, Nat.reduceAdd, Nat.reduceMul, Nat.reduceSub, reduceCtorEq, RC, Int.cast_ofNat_Int, hn, g2, g3, g10, g11, g12]
  refine condW_split (fun h => ?_) (fun h => ?_)
  · repeat first | (with_reducible first | refine Wp.seq ?_ | refine Wp.reg ?_ | refine Wp.block ?_ | refine Wp.skip ?_ | refine Wp.ret ?_ | refine Wp.exit ?_ | refine Wp.label ?_ | refine Wp.condG ?_) | simp (disch := omega) only [↓RP, RQ, TS, TR, ↓reduceIte, Nat.reduceEqDiff, Nat.reduceLT, Nat.reduceLeDiff, Int.reduceLT, Int.reduceLE, Int.reduceEq, Int.reduceAdd, Int.reduceSub, Int.reduceNeg, Int.reduceToNat, Nat.reduceAdd, Nat.reduceMul, Nat.reduceSub, reduceCtorEq, RC, Int.cast_ofNat_Int, hn, g2, g3, g10, g11, g12, hv1.idx, hv1.ldA (0, 0)]
    refine hS.eNew 2 [I 0, I 0] rfl rfl rfl tS48 fun D H5 hS => ?_
    repeat first | (with_reducible first | refine Wp.seq ?_ | refine Wp.reg ?_ | refine Wp.block ?_ | refine Wp.skip ?_ | refine Wp.ret ?_ | refine Wp.exit ?_ | refine Wp.label ?_ | refine Wp.condG ?_) | simp (disch := omega) only [↓RP, RQ, TS, TR, ↓reduceIte, Nat.reduceEqDiff, Nat.reduceLT, Nat.reduceLeDiff, Int.reduceLT, Int.reduceLE, Int.reduceEq, Int.reduceAdd, Int.reduceSub, Int.reduceNeg, Int.reduceToNat, Nat.reduceAdd, Nat.reduceMul, Nat.reduceSub, reduceCtorEq, RC, Int.cast_ofNat_Int, hn, g2, g3, g10, g11, g12]
    refine hS.eStore 4 rfl [_, _] rfl rfl tS48 (by simp) fun H6 hS => ?_
    simp only [List.nil_append, List.cons_append, List.append_nil, List.set_cons_zero, List.set_cons_succ, setMany_cons, setMany_nil, Nat.zero_add, Nat.mul_one, Nat.add_zero] at hS
    repeat first | (with_reducible first | refine Wp.seq ?_ | refine Wp.reg ?_ | refine Wp.block ?_ | refine Wp.skip ?_ | refine Wp.ret ?_ | refine Wp.exit ?_ | refine Wp.label ?_ | refine Wp.condG ?_) | simp (disch := omega) only [↓RP, RQ, TS, TR, ↓reduceIte, Nat.reduceEqDiff, Nat.reduceLT, Nat.reduceLeDiff, Int.reduceLT, Int.reduceLE, Int.reduceEq, Int.reduceAdd, Int.reduceSub, Int.reduceNeg, Int.reduceToNat, Nat.reduceAdd, Nat.reduceMul, Nat.reduceSub, reduceCtorEq, RC, Int.cast_ofNat_Int, hn, g2, g3, g10, g11, g12, hS.ld 2 rfl, hS.ld 4 rfl]
    refine hS.eSlice [I _, I _] tP25 tF25 rfl rfl (by simp [Value.cells]) rfl rfl (by decide) (by decide) fun x H7 hS => ?_
    repeat first | (with_reducible first | refine Wp.seq ?_ | refine Wp.reg ?_ | refine Wp.block ?_ | refine Wp.skip ?_ | refine Wp.ret ?_ | refine Wp.exit ?_ | refine Wp.label ?_ | refine Wp.condG ?_) | simp (disch := omega) only [↓RP, RQ, TS, TR, ↓reduceIte, Nat.reduceEqDiff, Nat.reduceLT, Nat.reduceLeDiff, Int.reduceLT, Int.reduceLE, Int.reduceEq, Int.reduceAdd, Int.reduceSub, Int.reduceNeg, Int.reduceToNat, Nat.reduceAdd, Nat.reduceMul, Nat.reduceSub, reduceCtorEq, RC, Int.cast_ofNat_Int, hn, g2, g3, g10, g11, g12]
    refine hS.eAppend 3 rfl (hS.rd 5 rfl) tP25 (by simp only [eg_length, tE, List.length_map, List.length_take, List.length_cons, List.length_nil]; omega) fun w' H8 hS => ?_
    have hw := (hS.rd 3 rfl).cells
    repeat first | (with_reducible first | refine Wp.seq ?_ | refine Wp.reg ?_ | refine Wp.block ?_ | refine Wp.skip ?_ | refine Wp.ret ?_ | refine Wp.exit ?_ | refine Wp.label ?_ | refine Wp.condG ?_) | simp (disch := omega) only [↓RP, RQ, TS, TR, ↓reduceIte, Nat.reduceEqDiff, Nat.reduceLT, Nat.reduceLeDiff, Int.reduceLT, Int.reduceLE, Int.reduceEq, Int.reduceAdd, Int.reduceSub, Int.reduceNeg, Int.reduceToNat, Nat.reduceAdd, Nat.reduceMul, Nat.reduceSub, reduceCtorEq, RC, Int.cast_ofNat_Int, hn, g2, g3, g10, g11, g12]
    refine hS.eStore 2 rfl [w'] (by rw [hw.1]) (by simp [hw.2.1]) tS25 (by simp) fun H9 hS => ?_
    simp only [List.nil_append, List.cons_append, List.append_nil, List.set_cons_zero, List.set_cons_succ, setMany_cons, setMany_nil, Nat.zero_add, Nat.mul_one, Nat.add_zero] at hS
    repeat first | (with_reducible first | refine Wp.seq ?_ | refine Wp.reg ?_ | refine Wp.block ?_ | refine Wp.skip ?_ | refine Wp.ret ?_ | refine Wp.exit ?_ | refine Wp.label ?_ | refine Wp.condG ?_) | simp (disch := omega) only [↓RP, RQ, TS, TR, ↓reduceIte, Nat.reduceEqDiff, Nat.reduceLT, Nat.reduceLeDiff, Int.reduceLT, Int.reduceLE, Int.reduceEq, Int.reduceAdd, Int.reduceSub, Int.reduceNeg, Int.reduceToNat, Nat.reduceAdd, Nat.reduceMul, Nat.reduceSub, reduceCtorEq, RC, Int.cast_ofNat_Int, hn, g2, g3, g10, g11, g12, wrap_fit]
    refine ⟨n - 1, by omega, i + 1, w', by omega, rfl, ?_⟩
    have e : tE (es.take (i + 1)) = tE (es.take i) ++ [((es.getD i (0, 0)).2, (es.getD i (0, 0)).1)] := by
      rw [take_succ_getD es i (0, 0) (by omega)]
      simp only [tE, List.map_append, List.map_cons, List.map_nil]
    rw [e, eg, List.flatMap_append]
    exact hS.sub (by simp)
  · have hw := (hS.rd 3 rfl).cells
    repeat first | (with_reducible first | refine Wp.seq ?_ | refine Wp.reg ?_ | refine Wp.block ?_ | refine Wp.skip ?_ | refine Wp.ret ?_ | refine Wp.exit ?_ | refine Wp.label ?_ | refine Wp.condG ?_) | simp (disch := omega) only [↓RP, RQ, TS, TR, ↓reduceIte, Nat.reduceEqDiff, Nat.reduceLT, Nat.reduceLeDiff, Int.reduceLT, Int.reduceLE, Int.reduceEq, Int.reduceAdd, Int.reduceSub, Int.reduceNeg, Int.reduceToNat, Nat.reduceAdd, Nat.reduceMul, Nat.reduceSub, reduceCtorEq, RC, Int.cast_ofNat_Int, hn, g2, g3, g10, g11, g12, hS.ldA 2 rfl]
    refine hS.eStore 1 rfl [I N, w] rfl (by simp [hw.2.1]; rfl) tS27 (by simp) fun H6 hS => ?_
    simp only [List.nil_append, List.cons_append, List.append_nil, List.set_cons_zero, List.set_cons_succ, setMany_cons, setMany_nil, Nat.zero_add, Nat.mul_one, Nat.add_zero] at hS
    repeat first | (with_reducible first | refine Wp.seq ?_ | refine Wp.reg ?_ | refine Wp.block ?_ | refine Wp.skip ?_ | refine Wp.ret ?_ | refine Wp.exit ?_ | refine Wp.label ?_ | refine Wp.condG ?_) | simp (disch := omega) only [↓RP, RQ, TS, TR, ↓reduceIte, Nat.reduceEqDiff, Nat.reduceLT, Nat.reduceLeDiff, Int.reduceLT, Int.reduceLE, Int.reduceEq, Int.reduceAdd, Int.reduceSub, Int.reduceNeg, Int.reduceToNat, Nat.reduceAdd, Nat.reduceMul, Nat.reduceSub, reduceCtorEq, RC, Int.cast_ofNat_Int, hn, g2, g3, g10, g11, g12, hS.ldA 1 rfl]
    refine ⟨w, rfl, ?_⟩
    have e : es.take i = es := List.take_of_length_le (by omega)
    rw [e] at hS
    exact hS.sub (.cons _ (.cons _ (.cons _ (.cons_cons _ (.refl _)))))

theorem reverse_ok (N : Nat) (v : Value) (es : List (Nat × Nat)) (hv : Eg H v es) (hN : N ≤ 200) (he : es.length ≤ 1000) (hval : ∀ e ∈ es, e.1 < N ∧ e.2 < N) :
    Fn Try.prog 28 [.agg #[I N, v]] H fun r H' => ∃ w, r = .tuple #[.agg #[I N, w], I 0] ∧ St Try.prog H H' [⟨w, 2, eg (tE es)⟩] := by
  refine Fn.of_wp (fn := Try.f28) rfl rfl (by kernel_rfl) fun l hl => ?_
  have hn : l.length = 13 := by rw [hl]; rfl
  have g0 : get l 0 = .agg #[I N, v] := by rw [hl]; rfl
  clear hl
  repeat first | (with_reducible first | refine Wp.seq ?_ | refine Wp.reg ?_ | refine Wp.block ?_ | refine Wp.skip ?_ | refine Wp.ret ?_ | refine Wp.exit ?_ | refine Wp.label ?_ | refine Wp.condG ?_) | simp (disch := omega) only [↓RP, RQ, TS, TR, ↓reduceIte, Nat.reduceEqDiff, Nat.reduceLT, Nat.reduceLeDiff, Int.reduceLT, Int.reduceLE, Int.reduceEq, Int.reduceAdd, Int.reduceSub, Int.reduceNeg, Int.reduceToNat, Nat.reduceAdd, Nat.reduceMul, Nat.reduceSub, reduceCtorEq, RC, Int.cast_ofNat_Int, hn, g0]
  refine (St.refl _ H).eNew 2 [I N, v] rfl rfl (by simp [hv.one]; rfl) tS27 fun A H1 hS => ?_
  repeat first | (with_reducible first | refine Wp.seq ?_ | refine Wp.reg ?_ | refine Wp.block ?_ | refine Wp.skip ?_ | refine Wp.ret ?_ | refine Wp.exit ?_ | refine Wp.label ?_ | refine Wp.condG ?_) | simp (disch := omega) only [↓RP, RQ, TS, TR, ↓reduceIte, Nat.reduceEqDiff, Nat.reduceLT, Nat.reduceLeDiff, Int.reduceLT, Int.reduceLE, Int.reduceEq, Int.reduceAdd, Int.reduceSub, Int.reduceNeg, Int.reduceToNat, Nat.reduceAdd, Nat.reduceMul, Nat.reduceSub, reduceCtorEq, RC, Int.cast_ofNat_Int, hn, g0]
  refine hS.eNew 2 [I 0, .slice none 0 0] rfl rfl rfl tS27 fun R H2 hS => ?_
  repeat first | (with_reducible first | refine Wp.seq ?_ | refine Wp.reg ?_ | refine Wp.block ?_ | refine Wp.skip ?_ | refine Wp.ret ?_ | refine Wp.exit ?_ | refine Wp.label ?_ | refine Wp.condG ?_) | simp (disch := omega) only [↓RP, RQ, TS, TR, ↓reduceIte, Nat.reduceEqDiff, Nat.reduceLT, Nat.reduceLeDiff, Int.reduceLT, Int.reduceLE, Int.reduceEq, Int.reduceAdd, Int.reduceSub, Int.reduceNeg, Int.reduceToNat, Nat.reduceAdd, Nat.reduceMul, Nat.reduceSub, reduceCtorEq, RC, Int.cast_ofNat_Int, hn, g0, hS.ldA 0 rfl]
  refine callFW_of (check_ok N v es (hS.base hv) hN he hval) ?_
  rintro r H3 ⟨rfl, hS2⟩
  have hS := hS.trans hS2
  simp only [List.nil_append, List.cons_append, List.append_nil, List.set_cons_zero, List.set_cons_succ, setMany_cons, setMany_nil, Nat.zero_add, Nat.mul_one, Nat.add_zero] at hS
  repeat first | (with_reducible first | refine Wp.seq ?_ | refine Wp.reg ?_ | refine Wp.block ?_ | refine Wp.skip ?_ | refine Wp.ret ?_ | refine Wp.exit ?_ | refine Wp.label ?_ | refine Wp.condG ?_) | simp (disch := omega) only [↓RP, RQ, TS, TR, ↓reduceIte, Nat.reduceEqDiff, Nat.reduceLT, Nat.reduceLeDiff, Int.reduceLT, Int.reduceLE, Int.reduceEq, Int.reduceAdd, Int.reduceSub, Int.reduceNeg, Int.reduceToNat, Nat.reduceAdd, Nat.reduceMul, Nat.reduceSub, reduceCtorEq, RC, Int.cast_ofNat_Int, hn, g0, hS.ldA 0 rfl]
  refine callFW_of (turned2_ok N v es (hS.base hv) he) ?_
  rintro r H4 ⟨w, rfl, hS2⟩
  have hS := hS.trans hS2
  simp only [List.nil_append, List.cons_append, List.append_nil, List.set_cons_zero, List.set_cons_succ, setMany_cons, setMany_nil, Nat.zero_add, Nat.mul_one, Nat.add_zero] at hS
  have hw := (hS.rd 2 rfl).cells
  repeat first | (with_reducible first | refine Wp.seq ?_ | refine Wp.reg ?_ | refine Wp.block ?_ | refine Wp.skip ?_ | refine Wp.ret ?_ | refine Wp.exit ?_ | refine Wp.label ?_ | refine Wp.condG ?_) | simp (disch := omega) only [↓RP, RQ, TS, TR, ↓reduceIte, Nat.reduceEqDiff, Nat.reduceLT, Nat.reduceLeDiff, Int.reduceLT, Int.reduceLE, Int.reduceEq, Int.reduceAdd, Int.reduceSub, Int.reduceNeg, Int.reduceToNat, Nat.reduceAdd, Nat.reduceMul, Nat.reduceSub, reduceCtorEq, RC, Int.cast_ofNat_Int, hn, g0]
  refine hS.eStore 1 rfl [I N, w] rfl (by simp [hw.2.1]; rfl) tS27 (by simp) fun H5 hS => ?_
  simp only [List.nil_append, List.cons_append, List.append_nil, List.set_cons_zero, List.set_cons_succ, setMany_cons, setMany_nil, Nat.zero_add, Nat.mul_one, Nat.add_zero] at hS
  repeat first | (with_reducible first | refine Wp.seq ?_ | refine Wp.reg ?_ | refine Wp.block ?_ | refine Wp.skip ?_ | refine Wp.ret ?_ | refine Wp.exit ?_ | refine Wp.label ?_ | refine Wp.condG ?_) | simp (disch := omega) only [↓RP, RQ, TS, TR, ↓reduceIte, Nat.reduceEqDiff, Nat.reduceLT, Nat.reduceLeDiff, Int.reduceLT, Int.reduceLE, Int.reduceEq, Int.reduceAdd, Int.reduceSub, Int.reduceNeg, Int.reduceToNat, Nat.reduceAdd, Nat.reduceMul, Nat.reduceSub, reduceCtorEq, RC, Int.cast_ofNat_Int, hn, g0, tR28, hS.ldA 1 rfl]
  exact ⟨w, rfl, hS.sub (.cons _ (.cons _ (.cons_cons _ (.refl _))))⟩
end Go.Ds
/-
  Contracts: Closure.
-/
namespace Go.Ds
open Go.Proofs Go.Plain
variable {H : Heap}

/-- Whether one of the first edges that leave a node leads on to another. -/
def hit (es : List (Nat × Nat)) (ds : Nat → List Int) (i k j : Nat) : Bool := (es.take j).any fun e => decide (e.1 = i) && decide (0 ≤ (ds e.2).getD k 0)
theorem hit_succ (es : List (Nat × Nat)) (ds : Nat → List Int) (i k j : Nat) (hj : j < es.length) : hit es ds i k (j + 1) = (hit es ds i k j || (decide ((es.getD j (0, 0)).1 = i) && decide (0 ≤ (ds (es.getD j (0, 0)).2).getD k 0))) := by
  unfold hit
  rw [take_succ_getD es j (0, 0) hj, List.any_append]
  simp only [List.any_cons, List.any_nil, Bool.or_false]

/-- A row while an edge is gone through. -/
def rowK (N : Nat) (es : List (Nat × Nat)) (ds : Nat → List Int) (i j k : Nat) : List Bool := (List.range N).map fun x => if x < k then hit es ds i x (j + 1) else hit es ds i x j
def rowB (N : Nat) (es : List (Nat × Nat)) (ds : Nat → List Int) (i j : Nat) : List Bool := (List.range N).map fun x => hit es ds i x j
theorem rowK_zero (N : Nat) (es : List (Nat × Nat)) (ds : Nat → List Int) (i j : Nat) : rowK N es ds i j 0 = rowB N es ds i j := by
  unfold rowK rowB
  apply List.map_congr_left
  intro x _
  rw [if_neg (Nat.not_lt_zero _)]
theorem rowK_all (N : Nat) (es : List (Nat × Nat)) (ds : Nat → List Int) (i j : Nat) : rowK N es ds i j N = rowB N es ds i (j + 1) := by
  unfold rowK rowB
  apply List.map_congr_left
  intro x hx
  rw [if_pos (List.mem_range.1 hx)]
theorem rowK_length (N : Nat) (es : List (Nat × Nat)) (ds : Nat → List Int) (i j k : Nat) : (rowK N es ds i j k).length = N := by simp [rowK]
theorem rowB_length (N : Nat) (es : List (Nat × Nat)) (ds : Nat → List Int) (i j : Nat) : (rowB N es ds i j).length = N := by simp [rowB]
theorem rowK_at (N : Nat) (es : List (Nat × Nat)) (ds : Nat → List Int) (i j k : Nat) (hk : k < N) : (rowK N es ds i j k).getD k false = hit es ds i k j := by simp [rowK, List.getD_eq_getElem?_getD, hk]
theorem rowB_at (N : Nat) (es : List (Nat × Nat)) (ds : Nat → List Int) (i j k : Nat) (hk : k < N) : (rowB N es ds i j).getD k false = hit es ds i k j := by simp [rowB, List.getD_eq_getElem?_getD, hk]
theorem rowK_set (N : Nat) (es : List (Nat × Nat)) (ds : Nat → List Int) (i j k : Nat) : (rowK N es ds i j k).set k (hit es ds i k (j + 1)) = rowK N es ds i j (k + 1) := by
  unfold rowK
  rw [map_upd]
  apply List.map_congr_left
  intro x _
  unfold upd
  by_cases e : x = k
  · rw [if_pos e, if_pos (by omega), e]
  · rw [if_neg e]
    show (if x < k then _ else _) = _
    by_cases h : x < k
    · rw [if_pos h, if_pos (by omega)]
    · rw [if_neg h, if_neg (by omega)]
theorem rb_at (d : List Int) (k : Nat) (hk : k < d.length) : (rb d).getD k false = decide (0 ≤ d.getD k 0) := by simp [rb, List.getD_eq_getElem?_getD, hk]

/-- The edges of the closure that leave a node, to the first nodes; and of the first nodes. -/
def clr (es : List (Nat × Nat)) (ds : Nat → List Int) (i K : Nat) : List (Nat × Nat) := ((List.range K).filter fun k => hit es ds i k es.length).map fun k => (i, k)
def clo (N : Nat) (es : List (Nat × Nat)) (ds : Nat → List Int) (i : Nat) : List (Nat × Nat) := (List.range i).flatMap fun a => clr es ds a N
theorem clr_succ (es : List (Nat × Nat)) (ds : Nat → List Int) (i k : Nat) : clr es ds i (k + 1) = clr es ds i k ++ (if hit es ds i k es.length = true then [(i, k)] else []) := by
  unfold clr
  rw [List.range_succ, List.filter_append, List.map_append]
  congr 1
  by_cases h : hit es ds i k es.length = true
  · simp [h]
  · simp [h]
theorem clo_succ (N : Nat) (es : List (Nat × Nat)) (ds : Nat → List Int) (i : Nat) : clo N es ds (i + 1) = clo N es ds i ++ clr es ds i N := by
  unfold clo
  rw [List.range_succ, List.flatMap_append]
  simp
theorem clr_le (es : List (Nat × Nat)) (ds : Nat → List Int) (i K : Nat) : (clr es ds i K).length ≤ K := by
  unfold clr
  rw [List.length_map]
  refine Nat.le_trans (List.length_filter_le _ _) ?_
  simp
theorem clo_le (N : Nat) (es : List (Nat × Nat)) (ds : Nat → List Int) (hN : N ≤ 200) : ∀ i, (clo N es ds i).length ≤ i * 200
  | 0 => by simp [clo]
  | i + 1 => by
    have h1 := clo_le N es ds hN i
    have h2 := clr_le es ds i N
    rw [clo_succ, List.length_append]
    omega

theorem Lp.cut {P : Program} {B : Base} {L : Nat} {r : Loop} {os : List Ob} (h : Lp P B L r H os) : ∃ B0 : Base, St P B0 H os ∧ ∀ H2 os2, St P B0 H2 os2 → Lp P B L r H2 os2 := ⟨_, h.st.rebase, fun _ _ h2 => h.body h2⟩
theorem tZ71 : zeroP Try.prog 71 = some (.slice none 0 0) := by kernel_rfl
theorem tZ69 : zeroP Try.prog 69 = some (.slice none 0 0) := by kernel_rfl

theorem closure_ok (N : Nat) (v : Value) (es : List (Nat × Nat)) (hv : Eg H v es) (hN : N ≤ 200) (he : es.length ≤ 1000) (hval : ∀ e ∈ es, e.1 < N ∧ e.2 < N) :
    Fn Try.prog 27 [.agg #[I N, v]] H fun r H' => ∃ ds : Nat → List Int, (∀ i, i < N → IsD es N i (ds i)) ∧
      (((clo N es ds N).length ≤ 1000 ∧ ∃ w, r = .tuple #[.agg #[I N, w], I 0] ∧ St Try.prog H H' [⟨w, 2, eg (clo N es ds N)⟩]) ∨
       (1000 < (clo N es ds N).length ∧ r = .tuple #[.agg #[I 0, .slice none 0 0], I 4] ∧ St Try.prog H H' [])) := by
  have hrl : (List.range N).length = N := List.length_range
  refine Fn.of_wp (fn := Try.f27) rfl rfl (by kernel_rfl) fun l hl => ?_
  have hn : l.length = 87 := by rw [hl]; rfl
  have g0 : get l 0 = .agg #[I N, v] := by rw [hl]; rfl
  clear hl
  repeat first | (with_reducible first | refine Wp.seq ?_ | refine Wp.reg ?_ | refine Wp.block ?_ | refine Wp.skip ?_ | refine Wp.ret ?_ | refine Wp.exit ?_ | refine Wp.label ?_ | refine Wp.condG ?_) | simp (disch := omega) only [↓RP, RQ, TS, TR, ↓reduceIte, Nat.reduceEqDiff, Nat.reduceLT, Nat.reduceLeDiff, Int.reduceLT, Int.reduceLE, Int.reduceEq, Int.reduceAdd, Int.reduceSub, Int.reduceNeg, Int.reduceToNat, Nat.reduceAdd, Nat.reduceMul, Nat.reduceSub, reduceCtorEq, RC, Int.cast_ofNat_Int, hn, g0]
  refine (St.refl _ H).eNew 2 [I N, v] rfl rfl (by simp [hv.one]; rfl) tS27 fun A H1 hS => ?_
  repeat first | (with_reducible first | refine Wp.seq ?_ | refine Wp.reg ?_ | refine Wp.block ?_ | refine Wp.skip ?_ | refine Wp.ret ?_ | refine Wp.exit ?_ | refine Wp.label ?_ | refine Wp.condG ?_) | simp (disch := omega) only [↓RP, RQ, TS, TR, ↓reduceIte, Nat.reduceEqDiff, Nat.reduceLT, Nat.reduceLeDiff, Int.reduceLT, Int.reduceLE, Int.reduceEq, Int.reduceAdd, Int.reduceSub, Int.reduceNeg, Int.reduceToNat, Nat.reduceAdd, Nat.reduceMul, Nat.reduceSub, reduceCtorEq, RC, Int.cast_ofNat_Int, hn, g0]
  refine hS.eNew 2 [I 0, .slice none 0 0] rfl rfl rfl tS27 fun R H2 hS => ?_
  repeat first | (with_reducible first | refine Wp.seq ?_ | refine Wp.reg ?_ | refine Wp.block ?_ | refine Wp.skip ?_ | refine Wp.ret ?_ | refine Wp.exit ?_ | refine Wp.label ?_ | refine Wp.condG ?_) | simp (disch := omega) only [↓RP, RQ, TS, TR, ↓reduceIte, Nat.reduceEqDiff, Nat.reduceLT, Nat.reduceLeDiff, Int.reduceLT, Int.reduceLE, Int.reduceEq, Int.reduceAdd, Int.reduceSub, Int.reduceNeg, Int.reduceToNat, Nat.reduceAdd, Nat.reduceMul, Nat.reduceSub, reduceCtorEq, RC, Int.cast_ofNat_Int, hn, g0, hS.ldA 0 rfl]
  refine callFW_of (check_ok N v es (hS.base hv) hN he hval) ?_
  rintro r H3 ⟨rfl, hS2⟩
  have hS := hS.trans hS2
  simp only [List.nil_append, List.cons_append, List.append_nil, List.set_cons_zero, List.set_cons_succ, setMany_cons, setMany_nil, Nat.zero_add, Nat.mul_one, Nat.add_zero] at hS
  repeat first | (with_reducible first | refine Wp.seq ?_ | refine Wp.reg ?_ | refine Wp.block ?_ | refine Wp.skip ?_ | refine Wp.ret ?_ | refine Wp.exit ?_ | refine Wp.label ?_ | refine Wp.condG ?_) | simp (disch := omega) only [↓RP, RQ, TS, TR, ↓reduceIte, Nat.reduceEqDiff, Nat.reduceLT, Nat.reduceLeDiff, Int.reduceLT, Int.reduceLE, Int.reduceEq, Int.reduceAdd, Int.reduceSub, Int.reduceNeg, Int.reduceToNat, Nat.reduceAdd, Nat.reduceMul, Nat.reduceSub, reduceCtorEq, RC, Int.cast_ofNat_Int, hn, g0, hS.ldA 0 rfl]
  refine callFW_of (reached_ok N v es (hS.base hv) hN he hval) ?_
  rintro wr H4 ⟨ws, ds, hds, hS2⟩
  have hS := hS.trans hS2
  simp only [List.nil_append, List.cons_append, List.append_nil, List.set_cons_zero, List.set_cons_succ, setMany_cons, setMany_nil, Nat.zero_add, Nat.mul_one, Nat.add_zero] at hS
  repeat first | (with_reducible first | refine Wp.seq ?_ | refine Wp.reg ?_ | refine Wp.block ?_ | refine Wp.skip ?_ | refine Wp.ret ?_ | refine Wp.exit ?_ | refine Wp.label ?_ | refine Wp.condG ?_) | simp (disch := omega) only [↓RP, RQ, TS, TR, ↓reduceIte, Nat.reduceEqDiff, Nat.reduceLT, Nat.reduceLeDiff, Int.reduceLT, Int.reduceLE, Int.reduceEq, Int.reduceAdd, Int.reduceSub, Int.reduceNeg, Int.reduceToNat, Nat.reduceAdd, Nat.reduceMul, Nat.reduceSub, reduceCtorEq, RC, Int.cast_ofNat_Int, hn, g0, tZ71]
  refine hS.eNew 1 [.slice none 0 0] rfl rfl rfl tS71 fun B H5 hS => ?_
  have hS := hS.front
  have hw := (hS.rd 3 rfl).cells
  repeat first | (with_reducible first | refine Wp.seq ?_ | refine Wp.reg ?_ | refine Wp.block ?_ | refine Wp.skip ?_ | refine Wp.ret ?_ | refine Wp.exit ?_ | refine Wp.label ?_ | refine Wp.condG ?_) | simp (disch := omega) only [↓RP, RQ, TS, TR, ↓reduceIte, Nat.reduceEqDiff, Nat.reduceLT, Nat.reduceLeDiff, Int.reduceLT, Int.reduceLE, Int.reduceEq, Int.reduceAdd, Int.reduceSub, Int.reduceNeg, Int.reduceToNat, Nat.reduceAdd, Nat.reduceMul, Nat.reduceSub, reduceCtorEq, RC, Int.cast_ofNat_Int, hn, g0]
  refine hS.eStore 0 rfl [wr] (by rw [hw.1]) (by simp [hw.2.1]) tS71 (by simp) fun H6 hS => ?_
  simp only [List.nil_append, List.cons_append, List.append_nil, List.set_cons_zero, List.set_cons_succ, setMany_cons, setMany_nil, Nat.zero_add, Nat.mul_one, Nat.add_zero] at hS
  repeat first | (with_reducible first | refine Wp.seq ?_ | refine Wp.reg ?_ | refine Wp.block ?_ | refine Wp.skip ?_ | refine Wp.ret ?_ | refine Wp.exit ?_ | refine Wp.label ?_ | refine Wp.condG ?_) | simp (disch := omega) only [↓RP, RQ, TS, TR, ↓reduceIte, Nat.reduceEqDiff, Nat.reduceLT, Nat.reduceLeDiff, Int.reduceLT, Int.reduceLE, Int.reduceEq, Int.reduceAdd, Int.reduceSub, Int.reduceNeg, Int.reduceToNat, Nat.reduceAdd, Nat.reduceMul, Nat.reduceSub, reduceCtorEq, RC, Int.cast_ofNat_Int, hn, g0, hS.ld 1 rfl]
  refine hS.eNew 2 [I 0, .slice none 0 0] rfl rfl rfl tS27 fun C H7 hS => ?_
  have hS := hS.front
  repeat first | (with_reducible first | refine Wp.seq ?_ | refine Wp.reg ?_ | refine Wp.block ?_ | refine Wp.skip ?_ | refine Wp.ret ?_ | refine Wp.exit ?_ | refine Wp.label ?_ | refine Wp.condG ?_) | simp (disch := omega) only [↓RP, RQ, TS, TR, ↓reduceIte, Nat.reduceEqDiff, Nat.reduceLT, Nat.reduceLeDiff, Int.reduceLT, Int.reduceLE, Int.reduceEq, Int.reduceAdd, Int.reduceSub, Int.reduceNeg, Int.reduceToNat, Nat.reduceAdd, Nat.reduceMul, Nat.reduceSub, reduceCtorEq, RC, Int.cast_ofNat_Int, hn, g0]
  refine hS.eStore 0 rfl [I N, .slice none 0 0] rfl rfl tS27 (by simp) fun H8 hS => ?_
  have hS := (hS.nil 1).front
  simp only [List.nil_append, List.cons_append, List.append_nil, List.set_cons_zero, List.set_cons_succ, setMany_cons, setMany_nil, Nat.zero_add, Nat.mul_one, Nat.add_zero] at hS
  repeat first | (with_reducible first | refine Wp.seq ?_ | refine Wp.reg ?_ | refine Wp.block ?_ | refine Wp.skip ?_ | refine Wp.ret ?_ | refine Wp.exit ?_ | refine Wp.label ?_ | refine Wp.condG ?_) | simp (disch := omega) only [↓RP, RQ, TS, TR, ↓reduceIte, Nat.reduceEqDiff, Nat.reduceLT, Nat.reduceLeDiff, Int.reduceLT, Int.reduceLE, Int.reduceEq, Int.reduceAdd, Int.reduceSub, Int.reduceNeg, Int.reduceToNat, Nat.reduceAdd, Nat.reduceMul, Nat.reduceSub, reduceCtorEq, RC, Int.cast_ofNat_Int, hn, g0, hS.ld 3 rfl]
  refine Wp.loopN (fun n l H' => l.length = 87 ∧ get l 1 = ptr A 0 2 ∧ get l 2 = ptr R 0 2 ∧ get l 5 = ptr B 0 1 ∧ get l 6 = ptr C 0 2 ∧ get l 26 = I N ∧ ∃ (i : Nat) (wE : Value), n + i = N ∧ get l 27 = I i ∧
    St Try.prog H H' (⟨wE, 2, eg (clo N es ds i)⟩ :: ⟨ptr C 0 2, 0, [I N, wE]⟩ :: ⟨ptr B 0 1, 0, [wr]⟩ :: ⟨ptr A 0 2, 0, [I N, v]⟩ :: ⟨ptr R 0 2, 0, [I 0, .slice none 0 0]⟩ :: ⟨wr, 1, (List.range N).map ws⟩ :: innerB N ws fun i => rb (ds i))) N ?_ ?_
  · repeat first | (with_reducible first | refine Wp.seq ?_ | refine Wp.reg ?_ | refine Wp.block ?_ | refine Wp.skip ?_ | refine Wp.ret ?_ | refine Wp.exit ?_ | refine Wp.label ?_ | refine Wp.condG ?_) | simp (disch := omega) only [↓RP, RQ, TS, TR, ↓reduceIte, Nat.reduceEqDiff, Nat.reduceLT, Nat.reduceLeDiff, Int.reduceLT, Int.reduceLE, Int.reduceEq, Int.reduceAdd, Int.reduceSub, Int.reduceNeg, Int.reduceToNat, Nat.reduceAdd, Nat.reduceMul, Nat.reduceSub, reduceCtorEq, RC, Int.cast_ofNat_Int, hn, g0]
    exact ⟨0, _, rfl, rfl, hS⟩
  clear hS hS2 hn g0 hw
  rintro n l H' ⟨hn, g1, g2, g5, g6, g26, i, wE, hi, g27, hS⟩
  repeat first | (with_reducible first | refine Wp.seq ?_ | refine Wp.reg ?_ | refine Wp.block ?_ | refine Wp.skip ?_ | refine Wp.ret ?_ | refine Wp.exit ?_ | refine Wp.label ?_ | refine Wp.condG ?_) | simp (disch := omega) only [↓RP, RQ, TS, TR, ↓reduceIte, Nat.reduceEqDiff, Nat.reduceLT, Nat.reduceLeDiff, Int.reduceLT, Int.reduceLE, Int.reduceEq, Int.reduceAdd, Int.reduceSub, Int.reduceNeg, Int.reduceToNat, Nat.reduceAdd, Nat.reduceMul, Nat.reduceSub, reduceCtorEq, RC, Int.cast_ofNat_Int, hn, g1, g2, g5, g6, g26, g27]
  refine condW_split (fun h => ?_) (fun h => ?_)
  · have hiN : i < N := by omega
    repeat first | (with_reducible first | refine Wp.seq ?_ | refine Wp.reg ?_ | refine Wp.block ?_ | refine Wp.skip ?_ | refine Wp.ret ?_ | refine Wp.exit ?_ | refine Wp.label ?_ | refine Wp.condG ?_) | simp (disch := omega) only [↓RP, RQ, TS, TR, ↓reduceIte, Nat.reduceEqDiff, Nat.reduceLT, Nat.reduceLeDiff, Int.reduceLT, Int.reduceLE, Int.reduceEq, Int.reduceAdd, Int.reduceSub, Int.reduceNeg, Int.reduceToNat, Nat.reduceAdd, Nat.reduceMul, Nat.reduceSub, reduceCtorEq, RC, Int.cast_ofNat_Int, hn, g1, g2, g5, g6, g26, g27, hS.ld 3 rfl]
    refine hS.eMake1 N tM69 (by omega) fun wrow H2 hS => ?_
    have hS := hS.front
    repeat first | (with_reducible first | refine Wp.seq ?_ | refine Wp.reg ?_ | refine Wp.block ?_ | refine Wp.skip ?_ | refine Wp.ret ?_ | refine Wp.exit ?_ | refine Wp.label ?_ | refine Wp.condG ?_) | simp (disch := omega) only [↓RP, RQ, TS, TR, ↓reduceIte, Nat.reduceEqDiff, Nat.reduceLT, Nat.reduceLeDiff, Int.reduceLT, Int.reduceLE, Int.reduceEq, Int.reduceAdd, Int.reduceSub, Int.reduceNeg, Int.reduceToNat, Nat.reduceAdd, Nat.reduceMul, Nat.reduceSub, reduceCtorEq, RC, Int.cast_ofNat_Int, hn, g1, g2, g5, g6, g26, g27, tZ69]
    refine hS.eNew 1 [.slice none 0 0] rfl rfl rfl tS69 fun D H3 hS => ?_
    have hS := hS.front
    have hw := (hS.rd 1 rfl).cells
    repeat first | (with_reducible first | refine Wp.seq ?_ | refine Wp.reg ?_ | refine Wp.block ?_ | refine Wp.skip ?_ | refine Wp.ret ?_ | refine Wp.exit ?_ | refine Wp.label ?_ | refine Wp.condG ?_) | simp (disch := omega) only [↓RP, RQ, TS, TR, ↓reduceIte, Nat.reduceEqDiff, Nat.reduceLT, Nat.reduceLeDiff, Int.reduceLT, Int.reduceLE, Int.reduceEq, Int.reduceAdd, Int.reduceSub, Int.reduceNeg, Int.reduceToNat, Nat.reduceAdd, Nat.reduceMul, Nat.reduceSub, reduceCtorEq, RC, Int.cast_ofNat_Int, hn, g1, g2, g5, g6, g26, g27]
    refine hS.eStore 0 rfl [wrow] (by rw [hw.1]) (by simp [hw.2.1]) tS69 (by simp) fun H4 hS => ?_
    simp only [List.nil_append, List.cons_append, List.append_nil, List.set_cons_zero, List.set_cons_succ, setMany_cons, setMany_nil, Nat.zero_add, Nat.mul_one, Nat.add_zero] at hS
    rw [show List.replicate N (Value.bool false) = bls (rowB N es ds i 0) from by unfold rowB hit; simp [List.map_const']] at hS
    repeat first | (with_reducible first | refine Wp.seq ?_ | refine Wp.reg ?_ | refine Wp.block ?_ | refine Wp.skip ?_ | refine Wp.ret ?_ | refine Wp.exit ?_ | refine Wp.label ?_ | refine Wp.condG ?_) | simp (disch := omega) only [↓RP, RQ, TS, TR, ↓reduceIte, Nat.reduceEqDiff, Nat.reduceLT, Nat.reduceLeDiff, Int.reduceLT, Int.reduceLE, Int.reduceEq, Int.reduceAdd, Int.reduceSub, Int.reduceNeg, Int.reduceToNat, Nat.reduceAdd, Nat.reduceMul, Nat.reduceSub, reduceCtorEq, RC, Int.cast_ofNat_Int, hn, g1, g2, g5, g6, g26, g27, hS.ldA 5 rfl]
    refine callFW_of (out1_ok N i v hv.one) ?_
    rintro r H6 ⟨Ag, An, rfl, hS2⟩
    have hS := (hS.trans hS2).perm List.perm_append_comm
    simp only [List.nil_append, List.cons_append, List.append_nil, List.set_cons_zero, List.set_cons_succ, setMany_cons, setMany_nil, Nat.zero_add, Nat.mul_one, Nat.add_zero] at hS
    repeat first | (with_reducible first | refine Wp.seq ?_ | refine Wp.reg ?_ | refine Wp.block ?_ | refine Wp.skip ?_ | refine Wp.ret ?_ | refine Wp.exit ?_ | refine Wp.label ?_ | refine Wp.condG ?_) | simp (disch := omega) only [↓RP, RQ, TS, TR, ↓reduceIte, Nat.reduceEqDiff, Nat.reduceLT, Nat.reduceLeDiff, Int.reduceLT, Int.reduceLE, Int.reduceEq, Int.reduceAdd, Int.reduceSub, Int.reduceNeg, Int.reduceToNat, Nat.reduceAdd, Nat.reduceMul, Nat.reduceSub, reduceCtorEq, RC, Int.cast_ofNat_Int, hn, g1, g2, g5, g6, g26, g27]
    refine Wp.slots fun l' hl' => ?_
    have hn' : l'.length = 87 := by rw [hl']; simp (disch := omega) only [↓RP, RQ, TS, TR, ↓reduceIte, Nat.reduceEqDiff, Nat.reduceLT, Nat.reduceLeDiff, Int.reduceLT, Int.reduceLE, Int.reduceEq, Int.reduceAdd, Int.reduceSub, Int.reduceNeg, Int.reduceToNat, Nat.reduceAdd, Nat.reduceMul, Nat.reduceSub, reduceCtorEq, RC, Int.cast_ofNat_Int, hn]
    have g1' : get l' 1 = ptr A 0 2 := by rw [hl']; simp (disch := omega) only [↓RP, RQ, TS, TR, ↓reduceIte, Nat.reduceEqDiff, Nat.reduceLT, Nat.reduceLeDiff, Int.reduceLT, Int.reduceLE, Int.reduceEq, Int.reduceAdd, Int.reduceSub, Int.reduceNeg, Int.reduceToNat, Nat.reduceAdd, Nat.reduceMul, Nat.reduceSub, reduceCtorEq, RC, Int.cast_ofNat_Int, hn, g1]
    have g2' : get l' 2 = ptr R 0 2 := by rw [hl']; simp (disch := omega) only [↓RP, RQ, TS, TR, ↓reduceIte, Nat.reduceEqDiff, Nat.reduceLT, Nat.reduceLeDiff, Int.reduceLT, Int.reduceLE, Int.reduceEq, Int.reduceAdd, Int.reduceSub, Int.reduceNeg, Int.reduceToNat, Nat.reduceAdd, Nat.reduceMul, Nat.reduceSub, reduceCtorEq, RC, Int.cast_ofNat_Int, hn, g2]
    have g5' : get l' 5 = ptr B 0 1 := by rw [hl']; simp (disch := omega) only [↓RP, RQ, TS, TR, ↓reduceIte, Nat.reduceEqDiff, Nat.reduceLT, Nat.reduceLeDiff, Int.reduceLT, Int.reduceLE, Int.reduceEq, Int.reduceAdd, Int.reduceSub, Int.reduceNeg, Int.reduceToNat, Nat.reduceAdd, Nat.reduceMul, Nat.reduceSub, reduceCtorEq, RC, Int.cast_ofNat_Int, hn, g5]
    have g6' : get l' 6 = ptr C 0 2 := by rw [hl']; simp (disch := omega) only [↓RP, RQ, TS, TR, ↓reduceIte, Nat.reduceEqDiff, Nat.reduceLT, Nat.reduceLeDiff, Int.reduceLT, Int.reduceLE, Int.reduceEq, Int.reduceAdd, Int.reduceSub, Int.reduceNeg, Int.reduceToNat, Nat.reduceAdd, Nat.reduceMul, Nat.reduceSub, reduceCtorEq, RC, Int.cast_ofNat_Int, hn, g6]
    have g7' : get l' 7 = I i := by rw [hl']; simp (disch := omega) only [↓RP, RQ, TS, TR, ↓reduceIte, Nat.reduceEqDiff, Nat.reduceLT, Nat.reduceLeDiff, Int.reduceLT, Int.reduceLE, Int.reduceEq, Int.reduceAdd, Int.reduceSub, Int.reduceNeg, Int.reduceToNat, Nat.reduceAdd, Nat.reduceMul, Nat.reduceSub, reduceCtorEq, RC, Int.cast_ofNat_Int, hn]
    have g8' : get l' 8 = ptr D 0 1 := by rw [hl']; simp (disch := omega) only [↓RP, RQ, TS, TR, ↓reduceIte, Nat.reduceEqDiff, Nat.reduceLT, Nat.reduceLeDiff, Int.reduceLT, Int.reduceLE, Int.reduceEq, Int.reduceAdd, Int.reduceSub, Int.reduceNeg, Int.reduceToNat, Nat.reduceAdd, Nat.reduceMul, Nat.reduceSub, reduceCtorEq, RC, Int.cast_ofNat_Int, hn]
    have g26' : get l' 26 = I N := by rw [hl']; simp (disch := omega) only [↓RP, RQ, TS, TR, ↓reduceIte, Nat.reduceEqDiff, Nat.reduceLT, Nat.reduceLeDiff, Int.reduceLT, Int.reduceLE, Int.reduceEq, Int.reduceAdd, Int.reduceSub, Int.reduceNeg, Int.reduceToNat, Nat.reduceAdd, Nat.reduceMul, Nat.reduceSub, reduceCtorEq, RC, Int.cast_ofNat_Int, hn, g26]
    have g27' : get l' 27 = I i := by rw [hl']; simp (disch := omega) only [↓RP, RQ, TS, TR, ↓reduceIte, Nat.reduceEqDiff, Nat.reduceLT, Nat.reduceLeDiff, Int.reduceLT, Int.reduceLE, Int.reduceEq, Int.reduceAdd, Int.reduceSub, Int.reduceNeg, Int.reduceToNat, Nat.reduceAdd, Nat.reduceMul, Nat.reduceSub, reduceCtorEq, RC, Int.cast_ofNat_Int, hn, g27]
    have g35' : get l' 35 = .func (.func 50) #[] [ptr Ag 0 2, ptr An 0 1].toArray := by rw [hl']; simp (disch := omega) only [↓RP, RQ, TS, TR, ↓reduceIte, Nat.reduceEqDiff, Nat.reduceLT, Nat.reduceLeDiff, Int.reduceLT, Int.reduceLE, Int.reduceEq, Int.reduceAdd, Int.reduceSub, Int.reduceNeg, Int.reduceToNat, Nat.reduceAdd, Nat.reduceMul, Nat.reduceSub, reduceCtorEq, RC, Int.cast_ofNat_Int, hn]
    clear hl' hn g1 g2 g5 g6 g26 g27 hS2 hw
    refine Wp.rangeR g35' fun r hst hpd htm hps has hbd => ?_
    have hreq : ({ r with state := .ready, pending := none } : Loop) = r := by
      cases r
      simp only at hst hpd
      subst hst hpd
      rfl
    have hLp := Lp.enter hS r
    generalize H6.cons (.loop r) = Hc at hLp ⊢
    generalize H6.length = L at hLp ⊢
    clear hS
    refine (out_ok N i v es he Ag An (.func (.yield L) #[] #[])
      (fun j H1 => Lp Try.prog H L r H1 (⟨ptr Ag 0 2, 0, [I N, v]⟩ :: ⟨ptr An 0 1, 0, [I i]⟩ :: ⟨ptr D 0 1, 0, [wrow]⟩ :: ⟨wrow, 1, bls (rowB N es ds i j)⟩ :: ⟨wE, 2, eg (clo N es ds i)⟩ :: ⟨ptr C 0 2, 0, [I N, wE]⟩ :: ⟨ptr B 0 1, 0, [wr]⟩ :: ⟨ptr A 0 2, 0, [I N, v]⟩ :: ⟨ptr R 0 2, 0, [I 0, .slice none 0 0]⟩ :: ⟨wr, 1, (List.range N).map ws⟩ :: innerB N ws fun i => rb (ds i)))
      (fun _ => False) hLp ?_ ?_ ?_ ?_).mono ?_
    · rintro j H1 h1
      exact ⟨h1.st.var 0 rfl, h1.st.var 1 rfl, h1.st.base hv⟩
    · rintro j H1 H2 h2 h3
      simpa using h2.ext h3
    · rintro j H1 hj hne h2
      have e : rowB N es ds i (j + 1) = rowB N es ds i j := by
        unfold rowB
        apply List.map_congr_left
        intro x _
        rw [hit_succ es ds i x j hj, decide_eq_false hne]
        simp
      rw [e]
      exact h2
    · rintro j H1 hj hja h1
      have hme := getD_mem (0, 0) hj
      have hm := hval _ hme
      have hdl := (hds _ hm.2).len
      refine callW_yield h1.get (by rw [hps]; rfl) hst ?_
      refine Wp.of_eq (l := put l' (some 36) (I j)) has (by rw [hps, htm]; exact (setL_eq ..).symm) ?_
      repeat first | (with_reducible first | refine Wp.seq ?_ | refine Wp.reg ?_ | refine Wp.block ?_ | refine Wp.skip ?_ | refine Wp.ret ?_ | refine Wp.exit ?_ | refine Wp.label ?_ | refine Wp.condG ?_) | simp (disch := omega) only [↓RP, RQ, TS, TR, ↓reduceIte, Nat.reduceEqDiff, Nat.reduceLT, Nat.reduceLeDiff, Int.reduceLT, Int.reduceLE, Int.reduceEq, Int.reduceAdd, Int.reduceSub, Int.reduceNeg, Int.reduceToNat, Nat.reduceAdd, Nat.reduceMul, Nat.reduceSub, reduceCtorEq, RC, Int.cast_ofNat_Int, hn']
      refine ⟨r, h1.get, hst, ?_⟩
      have hB := h1.set (fun h => h) { r with state := .busy }
      generalize hset H1 L (.loop { r with state := .busy }) = Hb at hB ⊢
      refine Wp.of_eq hbd rfl ?_
      have hv1 : Sl2 Hb v _ _ es := hB.st.base hv
      obtain ⟨B0, hS, hback⟩ := hB.cut
      have ho : Sl1 Hb wr ws (List.range N) := hS.rd 9 rfl
      have hrow : Sl1 Hb (ws (es.getD j (0, 0)).2) (fun b : Bool => .bool b) (rb (ds (es.getD j (0, 0)).2)) := hS.rd ((es.getD j (0, 0)).2 + 10) (innerB_get N ws _ _ hm.2)
      have hrbl := rb_length (ds (es.getD j (0, 0)).2)
      repeat first | (with_reducible first | refine Wp.seq ?_ | refine Wp.reg ?_ | refine Wp.block ?_ | refine Wp.skip ?_ | refine Wp.ret ?_ | refine Wp.exit ?_ | refine Wp.label ?_ | refine Wp.condG ?_) | with_reducible refine Wp.drw hmix (by kernel_rfl) ?_ | simp (disch := omega) only [↓RP, RQ, TS, TR, ↓reduceIte, Nat.reduceEqDiff, Nat.reduceLT, Nat.reduceLeDiff, Int.reduceLT, Int.reduceLE, Int.reduceEq, Int.reduceAdd, Int.reduceSub, Int.reduceNeg, Int.reduceToNat, Nat.reduceAdd, Nat.reduceMul, Nat.reduceSub, reduceCtorEq, RC, Int.cast_ofNat_Int, hn', g1', g2', g5', g6', g7', g8', hS.ld 6 rfl, hS.ld 7 rfl, hv1.idx, hv1.fld, hv1.ld1 (0, 0), ho.idx, ho.ld 0, getD_range, hrow.len]
      rw [← rowK_zero] at hS
      refine Wp.loopN (fun n l H2 => l.length = 87 ∧ get l 8 = ptr D 0 1 ∧ get l 45 = ws (es.getD j (0, 0)).2 ∧ get l 46 = I N ∧ ∃ k : Nat, n + k = N ∧ get l 47 = I k ∧
        St Try.prog B0 H2 (⟨ptr Ag 0 2, 0, [I N, v]⟩ :: ⟨ptr An 0 1, 0, [I i]⟩ :: ⟨ptr D 0 1, 0, [wrow]⟩ :: ⟨wrow, 1, bls (rowK N es ds i j k)⟩ :: ⟨wE, 2, eg (clo N es ds i)⟩ :: ⟨ptr C 0 2, 0, [I N, wE]⟩ :: ⟨ptr B 0 1, 0, [wr]⟩ :: ⟨ptr A 0 2, 0, [I N, v]⟩ :: ⟨ptr R 0 2, 0, [I 0, .slice none 0 0]⟩ :: ⟨wr, 1, (List.range N).map ws⟩ :: innerB N ws fun i => rb (ds i))) N ?_ ?_
      · repeat first | (with_reducible first | refine Wp.seq ?_ | refine Wp.reg ?_ | refine Wp.block ?_ | refine Wp.skip ?_ | refine Wp.ret ?_ | refine Wp.exit ?_ | refine Wp.label ?_ | refine Wp.condG ?_) | simp (disch := omega) only [↓RP, RQ, TS, TR, ↓reduceIte, Nat.reduceEqDiff, Nat.reduceLT, Nat.reduceLeDiff, Int.reduceLT, Int.reduceLE, Int.reduceEq, Int.reduceAdd, Int.reduceSub, Int.reduceNeg, Int.reduceToNat, Nat.reduceAdd, Nat.reduceMul, Nat.reduceSub, reduceCtorEq, RC, Int.cast_ofNat_Int, hn', g8']
        exact ⟨by rw [hrbl, hdl], 0, rfl, rfl, hS⟩
      clear hS hv1 ho hrow
      rintro m l H2 ⟨hn, g8, g45, g46, k, hk, g47, hS⟩
      have hrow : Sl1 H2 (ws (es.getD j (0, 0)).2) (fun b : Bool => .bool b) (rb (ds (es.getD j (0, 0)).2)) := hS.rd ((es.getD j (0, 0)).2 + 10) (innerB_get N ws _ _ hm.2)
      have hw : Sl1 H2 wrow (fun b : Bool => .bool b) (rowK N es ds i j k) := hS.rd 3 rfl
      have hwl := rowK_length N es ds i j k
      repeat first | (with_reducible first | refine Wp.seq ?_ | refine Wp.reg ?_ | refine Wp.block ?_ | refine Wp.skip ?_ | refine Wp.ret ?_ | refine Wp.exit ?_ | refine Wp.label ?_ | refine Wp.condG ?_) | simp (disch := omega) only [↓RP, RQ, TS, TR, ↓reduceIte, Nat.reduceEqDiff, Nat.reduceLT, Nat.reduceLeDiff, Int.reduceLT, Int.reduceLE, Int.reduceEq, Int.reduceAdd, Int.reduceSub, Int.reduceNeg, Int.reduceToNat, Nat.reduceAdd, Nat.reduceMul, Nat.reduceSub, reduceCtorEq, RC, Int.cast_ofNat_Int, hn, g8, g45, g46, g47]
      refine condW_split (fun h2 => ?_) (fun h2 => ?_)
      · have hkN : k < N := by omega
        have hsucc := hit_succ es ds i k j hj
        rw [decide_eq_true hja, Bool.true_and] at hsucc
        have hset := rowK_set N es ds i j k
        repeat first | (with_reducible first | refine Wp.seq ?_ | refine Wp.reg ?_ | refine Wp.block ?_ | refine Wp.skip ?_ | refine Wp.ret ?_ | refine Wp.exit ?_ | refine Wp.label ?_ | refine Wp.condG ?_) | simp (disch := omega) only [↓RP, RQ, TS, TR, ↓reduceIte, Nat.reduceEqDiff, Nat.reduceLT, Nat.reduceLeDiff, Int.reduceLT, Int.reduceLE, Int.reduceEq, Int.reduceAdd, Int.reduceSub, Int.reduceNeg, Int.reduceToNat, Nat.reduceAdd, Nat.reduceMul, Nat.reduceSub, reduceCtorEq, RC, Int.cast_ofNat_Int, hn, g8, g45, g46, g47, hrow.idx, hrow.ld false, rb_at]
        generalize hit es ds i k (j + 1) = b1 at hsucc hset
        generalize hb0 : hit es ds i k j = b0 at hsucc
        generalize decide (0 ≤ (ds (es.getD j (0, 0)).2).getD k 0) = bd at hsucc ⊢
        have hat : (rowK N es ds i j k).getD k false = b0 := by rw [rowK_at _ _ _ _ _ _ hkN, hb0]
        cases b0 with
        | true =>
          obtain rfl : b1 = true := by simpa using hsucc
          repeat first | (with_reducible first | refine Wp.seq ?_ | refine Wp.reg ?_ | refine Wp.block ?_ | refine Wp.skip ?_ | refine Wp.ret ?_ | refine Wp.exit ?_ | refine Wp.label ?_ | refine Wp.condG ?_) | with_reducible refine Wp.drw hmix (by kernel_rfl) ?_ | simp (disch := omega) only [↓RP, RQ, TS, TR, ↓reduceIte, Nat.reduceEqDiff, Nat.reduceLT, Nat.reduceLeDiff, Int.reduceLT, Int.reduceLE, Int.reduceEq, Int.reduceAdd, Int.reduceSub, Int.reduceNeg, Int.reduceToNat, Nat.reduceAdd, Nat.reduceMul, Nat.reduceSub, reduceCtorEq, RC, Int.cast_ofNat_Int, hn, g8, g45, g46, g47, hS.ld 2 rfl, hw.idx, hw.ld false, hat]
          refine hS.eStoreE 3 rfl [_] rfl rfl tS4 (by simp) (by simp only [List.length_map, List.length_cons, List.length_nil]; omega) fun H3 hS => ?_
          simp only [List.nil_append, List.cons_append, List.append_nil, List.set_cons_zero, List.set_cons_succ, setMany_cons, setMany_nil, Nat.zero_add, Nat.mul_one, Nat.add_zero] at hS
          rw [← List.map_set, hset] at hS
          repeat first | (with_reducible first | refine Wp.seq ?_ | refine Wp.reg ?_ | refine Wp.block ?_ | refine Wp.skip ?_ | refine Wp.ret ?_ | refine Wp.exit ?_ | refine Wp.label ?_ | refine Wp.condG ?_) | simp (disch := omega) only [↓RP, RQ, TS, TR, ↓reduceIte, Nat.reduceEqDiff, Nat.reduceLT, Nat.reduceLeDiff, Int.reduceLT, Int.reduceLE, Int.reduceEq, Int.reduceAdd, Int.reduceSub, Int.reduceNeg, Int.reduceToNat, Nat.reduceAdd, Nat.reduceMul, Nat.reduceSub, reduceCtorEq, RC, Int.cast_ofNat_Int, hn, g8, g45, g46, g47, wrap_fit]
          exact ⟨m - 1, by omega, k + 1, by omega, rfl, hS⟩
        | false =>
          obtain rfl : b1 = bd := by simpa using hsucc
          repeat first | (with_reducible first | refine Wp.seq ?_ | refine Wp.reg ?_ | refine Wp.block ?_ | refine Wp.skip ?_ | refine Wp.ret ?_ | refine Wp.exit ?_ | refine Wp.label ?_ | refine Wp.condG ?_) | with_reducible refine Wp.drw hmix (by kernel_rfl) ?_ | simp (disch := omega) only [↓RP, RQ, TS, TR, ↓reduceIte, Nat.reduceEqDiff, Nat.reduceLT, Nat.reduceLeDiff, Int.reduceLT, Int.reduceLE, Int.reduceEq, Int.reduceAdd, Int.reduceSub, Int.reduceNeg, Int.reduceToNat, Nat.reduceAdd, Nat.reduceMul, Nat.reduceSub, reduceCtorEq, RC, Int.cast_ofNat_Int, hn, g8, g45, g46, g47, hS.ld 2 rfl, hw.idx, hw.ld false, hat]
          refine hS.eStoreE 3 rfl [_] rfl rfl tS4 (by simp) (by simp only [List.length_map, List.length_cons, List.length_nil]; omega) fun H3 hS => ?_
          simp only [List.nil_append, List.cons_append, List.append_nil, List.set_cons_zero, List.set_cons_succ, setMany_cons, setMany_nil, Nat.zero_add, Nat.mul_one, Nat.add_zero] at hS
          rw [← List.map_set, hset] at hS
          repeat first | (with_reducible first | refine Wp.seq ?_ | refine Wp.reg ?_ | refine Wp.block ?_ | refine Wp.skip ?_ | refine Wp.ret ?_ | refine Wp.exit ?_ | refine Wp.label ?_ | refine Wp.condG ?_) | simp (disch := omega) only [↓RP, RQ, TS, TR, ↓reduceIte, Nat.reduceEqDiff, Nat.reduceLT, Nat.reduceLeDiff, Int.reduceLT, Int.reduceLE, Int.reduceEq, Int.reduceAdd, Int.reduceSub, Int.reduceNeg, Int.reduceToNat, Nat.reduceAdd, Nat.reduceMul, Nat.reduceSub, reduceCtorEq, RC, Int.cast_ofNat_Int, hn, g8, g45, g46, g47, wrap_fit]
          exact ⟨m - 1, by omega, k + 1, by omega, rfl, hS⟩
      · have hke : k = N := by omega
        subst hke
        rw [rowK_all] at hS
        repeat first | (with_reducible first | refine Wp.seq ?_ | refine Wp.reg ?_ | refine Wp.block ?_ | refine Wp.skip ?_ | refine Wp.ret ?_ | refine Wp.exit ?_ | refine Wp.label ?_ | refine Wp.condG ?_) | simp (disch := omega) only [↓RP, RQ, TS, TR, ↓reduceIte, Nat.reduceEqDiff, Nat.reduceLT, Nat.reduceLeDiff, Int.reduceLT, Int.reduceLE, Int.reduceEq, Int.reduceAdd, Int.reduceSub, Int.reduceNeg, Int.reduceToNat, Nat.reduceAdd, Nat.reduceMul, Nat.reduceSub, reduceCtorEq, RC, Int.cast_ofNat_Int, hn, g8, g45, g46, g47]
        have hB2 := hback _ _ hS
        refine ⟨_, hB2.get, true, rfl, (fun _ => ?_), (fun h => by cases h)⟩
        have := hB2.set (fun h => h) r
        rw [← hreq] at this
        exact hreq ▸ this
    · rintro _ H7 (h1 | hf)
      · refine ⟨_, h1.get, (by rw [hst]; intro h; cases h), (fun _ => ?_), (fun c hc => by rw [hpd] at hc; cases hc)⟩
        have hB := h1.set (fun h => h) { r with state := .exhausted }
        have hS := hB.st
        generalize hset H7 L (.loop { r with state := .exhausted }) = H8 at hS ⊢
        have hrow : Sl1 H8 wrow (fun b : Bool => .bool b) (rowB N es ds i es.length) := hS.rd 3 rfl
        have hrl2 := rowB_length N es ds i es.length
        have hcl := clo_le N es ds hN i
        repeat first | (with_reducible first | refine Wp.seq ?_ | refine Wp.reg ?_ | refine Wp.block ?_ | refine Wp.skip ?_ | refine Wp.ret ?_ | refine Wp.exit ?_ | refine Wp.label ?_ | refine Wp.condG ?_) | simp (disch := omega) only [↓RP, RQ, TS, TR, ↓reduceIte, Nat.reduceEqDiff, Nat.reduceLT, Nat.reduceLeDiff, Int.reduceLT, Int.reduceLE, Int.reduceEq, Int.reduceAdd, Int.reduceSub, Int.reduceNeg, Int.reduceToNat, Nat.reduceAdd, Nat.reduceMul, Nat.reduceSub, reduceCtorEq, RC, Int.cast_ofNat_Int, hn', g1', g2', g5', g6', g7', g8', g26', g27', hS.ld 2 rfl, hrow.len]
        have hS := hS.sub (os' := ⟨wrow, 1, bls (rowB N es ds i es.length)⟩ :: ⟨wE, 2, eg (clo N es ds i ++ clr es ds i 0)⟩ :: ⟨ptr C 0 2, 0, [I N, wE]⟩ :: ⟨ptr B 0 1, 0, [wr]⟩ :: ⟨ptr A 0 2, 0, [I N, v]⟩ :: ⟨ptr R 0 2, 0, [I 0, .slice none 0 0]⟩ :: ⟨wr, 1, (List.range N).map ws⟩ :: innerB N ws fun i => rb (ds i)) (by
          rw [show clo N es ds i ++ clr es ds i 0 = clo N es ds i from by simp [clr]]
          exact .cons _ (.cons _ (.cons _ (.refl _))))
        refine Wp.loopN (fun m l H2 => l.length = 87 ∧ get l 1 = ptr A 0 2 ∧ get l 2 = ptr R 0 2 ∧ get l 5 = ptr B 0 1 ∧ get l 6 = ptr C 0 2 ∧ get l 7 = I i ∧ get l 26 = I N ∧ get l 27 = I i ∧ get l 63 = wrow ∧ get l 64 = I N ∧ ∃ (k : Nat) (wE : Value), m + k = N ∧ get l 65 = I k ∧
          St Try.prog H H2 (⟨wrow, 1, bls (rowB N es ds i es.length)⟩ :: ⟨wE, 2, eg (clo N es ds i ++ clr es ds i k)⟩ :: ⟨ptr C 0 2, 0, [I N, wE]⟩ :: ⟨ptr B 0 1, 0, [wr]⟩ :: ⟨ptr A 0 2, 0, [I N, v]⟩ :: ⟨ptr R 0 2, 0, [I 0, .slice none 0 0]⟩ :: ⟨wr, 1, (List.range N).map ws⟩ :: innerB N ws fun i => rb (ds i))) N ?_ ?_
        · repeat first | (with_reducible first | refine Wp.seq ?_ | refine Wp.reg ?_ | refine Wp.block ?_ | refine Wp.skip ?_ | refine Wp.ret ?_ | refine Wp.exit ?_ | refine Wp.label ?_ | refine Wp.condG ?_) | simp (disch := omega) only [↓RP, RQ, TS, TR, ↓reduceIte, Nat.reduceEqDiff, Nat.reduceLT, Nat.reduceLeDiff, Int.reduceLT, Int.reduceLE, Int.reduceEq, Int.reduceAdd, Int.reduceSub, Int.reduceNeg, Int.reduceToNat, Nat.reduceAdd, Nat.reduceMul, Nat.reduceSub, reduceCtorEq, RC, Int.cast_ofNat_Int, hn', g1', g2', g5', g6', g7', g26', g27']
          exact ⟨by rw [hrl2], 0, wE, rfl, rfl, hS⟩
        clear hS hrow hB h1
        rintro m l H2 ⟨hn, g1, g2, g5, g6, g7, g26, g27, g63, g64, k, wE, hk, g65, hS⟩
        have hrow : Sl1 H2 wrow (fun b : Bool => .bool b) (rowB N es ds i es.length) := hS.rd 0 rfl
        repeat first | (with_reducible first | refine Wp.seq ?_ | refine Wp.reg ?_ | refine Wp.block ?_ | refine Wp.skip ?_ | refine Wp.ret ?_ | refine Wp.exit ?_ | refine Wp.label ?_ | refine Wp.condG ?_) | simp (disch := omega) only [↓RP, RQ, TS, TR, ↓reduceIte, Nat.reduceEqDiff, Nat.reduceLT, Nat.reduceLeDiff, Int.reduceLT, Int.reduceLE, Int.reduceEq, Int.reduceAdd, Int.reduceSub, Int.reduceNeg, Int.reduceToNat, Nat.reduceAdd, Nat.reduceMul, Nat.reduceSub, reduceCtorEq, RC, Int.cast_ofNat_Int, hn, g1, g2, g5, g6, g7, g26, g27, g63, g64, g65]
        refine condW_split (fun h2 => ?_) (fun h2 => ?_)
        · have hkN : k < N := by omega
          have hsucc := clr_succ es ds i k
          have hcr := clr_le es ds i k
          have hat : (rowB N es ds i es.length).getD k false = hit es ds i k es.length := rowB_at _ _ _ _ _ _ hkN
          repeat first | (with_reducible first | refine Wp.seq ?_ | refine Wp.reg ?_ | refine Wp.block ?_ | refine Wp.skip ?_ | refine Wp.ret ?_ | refine Wp.exit ?_ | refine Wp.label ?_ | refine Wp.condG ?_) | simp (disch := omega) only [↓RP, RQ, TS, TR, ↓reduceIte, Nat.reduceEqDiff, Nat.reduceLT, Nat.reduceLeDiff, Int.reduceLT, Int.reduceLE, Int.reduceEq, Int.reduceAdd, Int.reduceSub, Int.reduceNeg, Int.reduceToNat, Nat.reduceAdd, Nat.reduceMul, Nat.reduceSub, reduceCtorEq, RC, Int.cast_ofNat_Int, hn, g1, g2, g5, g6, g7, g26, g27, g63, g64, g65, hrow.idx, hrow.ld false, hat]
          generalize hit es ds i k es.length = b0 at hsucc ⊢
          cases b0 with
          | true =>
            repeat first | (with_reducible first | refine Wp.seq ?_ | refine Wp.reg ?_ | refine Wp.block ?_ | refine Wp.skip ?_ | refine Wp.ret ?_ | refine Wp.exit ?_ | refine Wp.label ?_ | refine Wp.condG ?_) | simp (disch := omega) only [↓RP, RQ, TS, TR, ↓reduceIte, Nat.reduceEqDiff, Nat.reduceLT, Nat.reduceLeDiff, Int.reduceLT, Int.reduceLE, Int.reduceEq, Int.reduceAdd, Int.reduceSub, Int.reduceNeg, Int.reduceToNat, Nat.reduceAdd, Nat.reduceMul, Nat.reduceSub, reduceCtorEq, RC, Int.cast_ofNat_Int, hn, g1, g2, g5, g6, g7, g26, g27, g63, g64, g65, hS.ld 2 rfl]
            refine hS.eSlice [I _, I _] tP25 tF25 rfl rfl (by simp [Value.cells]) rfl rfl (by decide) (by decide) fun x H3 hS => ?_
            have hS := hS.front
            repeat first | (with_reducible first | refine Wp.seq ?_ | refine Wp.reg ?_ | refine Wp.block ?_ | refine Wp.skip ?_ | refine Wp.ret ?_ | refine Wp.exit ?_ | refine Wp.label ?_ | refine Wp.condG ?_) | simp (disch := omega) only [↓RP, RQ, TS, TR, ↓reduceIte, Nat.reduceEqDiff, Nat.reduceLT, Nat.reduceLeDiff, Int.reduceLT, Int.reduceLE, Int.reduceEq, Int.reduceAdd, Int.reduceSub, Int.reduceNeg, Int.reduceToNat, Nat.reduceAdd, Nat.reduceMul, Nat.reduceSub, reduceCtorEq, RC, Int.cast_ofNat_Int, hn, g1, g2, g5, g6, g7, g26, g27, g63, g64, g65]
            refine hS.eAppend 2 rfl (hS.rd 0 rfl) tP25 (by simp only [eg_length, List.length_append, List.length_cons, List.length_nil]; omega) fun w' H4 hS => ?_
            simp only [List.nil_append, List.cons_append, List.append_nil, List.set_cons_zero, List.set_cons_succ, setMany_cons, setMany_nil, Nat.zero_add, Nat.mul_one, Nat.add_zero] at hS
            have hw := (hS.rd 2 rfl).cells
            repeat first | (with_reducible first | refine Wp.seq ?_ | refine Wp.reg ?_ | refine Wp.block ?_ | refine Wp.skip ?_ | refine Wp.ret ?_ | refine Wp.exit ?_ | refine Wp.label ?_ | refine Wp.condG ?_) | simp (disch := omega) only [↓RP, RQ, TS, TR, ↓reduceIte, Nat.reduceEqDiff, Nat.reduceLT, Nat.reduceLeDiff, Int.reduceLT, Int.reduceLE, Int.reduceEq, Int.reduceAdd, Int.reduceSub, Int.reduceNeg, Int.reduceToNat, Nat.reduceAdd, Nat.reduceMul, Nat.reduceSub, reduceCtorEq, RC, Int.cast_ofNat_Int, hn, g1, g2, g5, g6, g7, g26, g27, g63, g64, g65]
            refine hS.eStore 3 rfl [w'] (by rw [hw.1]) (by simp [hw.2.1]) tS25 (by simp) fun H5 hS => ?_
            simp only [List.nil_append, List.cons_append, List.append_nil, List.set_cons_zero, List.set_cons_succ, setMany_cons, setMany_nil, Nat.zero_add, Nat.mul_one, Nat.add_zero] at hS
            repeat first | (with_reducible first | refine Wp.seq ?_ | refine Wp.reg ?_ | refine Wp.block ?_ | refine Wp.skip ?_ | refine Wp.ret ?_ | refine Wp.exit ?_ | refine Wp.label ?_ | refine Wp.condG ?_) | simp (disch := omega) only [↓RP, RQ, TS, TR, ↓reduceIte, Nat.reduceEqDiff, Nat.reduceLT, Nat.reduceLeDiff, Int.reduceLT, Int.reduceLE, Int.reduceEq, Int.reduceAdd, Int.reduceSub, Int.reduceNeg, Int.reduceToNat, Nat.reduceAdd, Nat.reduceMul, Nat.reduceSub, reduceCtorEq, RC, Int.cast_ofNat_Int, hn, g1, g2, g5, g6, g7, g26, g27, g63, g64, g65, wrap_fit]
            refine ⟨m - 1, by omega, k + 1, w', by omega, rfl, ?_⟩
            rw [if_pos rfl] at hsucc
            rw [hsucc, ← List.append_assoc, show eg (clo N es ds i ++ clr es ds i k ++ [(i, k)]) = eg (clo N es ds i ++ clr es ds i k) ++ [I i, I k] from by unfold eg; rw [List.flatMap_append]; rfl]
            exact hS.tail
          | false =>
            rw [if_neg (by decide), List.append_nil] at hsucc
            repeat first | (with_reducible first | refine Wp.seq ?_ | refine Wp.reg ?_ | refine Wp.block ?_ | refine Wp.skip ?_ | refine Wp.ret ?_ | refine Wp.exit ?_ | refine Wp.label ?_ | refine Wp.condG ?_) | simp (disch := omega) only [↓RP, RQ, TS, TR, ↓reduceIte, Nat.reduceEqDiff, Nat.reduceLT, Nat.reduceLeDiff, Int.reduceLT, Int.reduceLE, Int.reduceEq, Int.reduceAdd, Int.reduceSub, Int.reduceNeg, Int.reduceToNat, Nat.reduceAdd, Nat.reduceMul, Nat.reduceSub, reduceCtorEq, RC, Int.cast_ofNat_Int, hn, g1, g2, g5, g6, g7, g26, g27, g63, g64, g65, wrap_fit]
            refine ⟨m - 1, by omega, k + 1, wE, by omega, rfl, ?_⟩
            rw [hsucc]
            exact hS
        · have hke : k = N := by omega
          subst hke
          rw [← clo_succ] at hS
          repeat first | (with_reducible first | refine Wp.seq ?_ | refine Wp.reg ?_ | refine Wp.block ?_ | refine Wp.skip ?_ | refine Wp.ret ?_ | refine Wp.exit ?_ | refine Wp.label ?_ | refine Wp.condG ?_) | simp (disch := omega) only [↓RP, RQ, TS, TR, ↓reduceIte, Nat.reduceEqDiff, Nat.reduceLT, Nat.reduceLeDiff, Int.reduceLT, Int.reduceLE, Int.reduceEq, Int.reduceAdd, Int.reduceSub, Int.reduceNeg, Int.reduceToNat, Nat.reduceAdd, Nat.reduceMul, Nat.reduceSub, reduceCtorEq, RC, Int.cast_ofNat_Int, hn, g1, g2, g5, g6, g7, g26, g27, g63, g64, g65, wrap_fit]
          exact ⟨n - 1, by omega, i + 1, wE, by omega, rfl, hS.tail⟩
      · exact hf.elim
  · have hie : i = N := by omega
    subst hie
    have hE : Sl2 H' wE _ _ (clo i es ds i) := hS.rd 0 rfl
    have hw := (hS.rd 0 rfl).cells
    repeat first | (with_reducible first | refine Wp.seq ?_ | refine Wp.reg ?_ | refine Wp.block ?_ | refine Wp.skip ?_ | refine Wp.ret ?_ | refine Wp.exit ?_ | refine Wp.label ?_ | refine Wp.condG ?_) | simp (disch := omega) only [↓RP, RQ, TS, TR, ↓reduceIte, Nat.reduceEqDiff, Nat.reduceLT, Nat.reduceLeDiff, Int.reduceLT, Int.reduceLE, Int.reduceEq, Int.reduceAdd, Int.reduceSub, Int.reduceNeg, Int.reduceToNat, Nat.reduceAdd, Nat.reduceMul, Nat.reduceSub, reduceCtorEq, RC, Int.cast_ofNat_Int, hn, g1, g2, g5, g6, g26, g27, hS.ld 1 rfl, hE.len]
    refine condW_split (fun h2 => ?_) (fun h2 => ?_)
    · repeat first | (with_reducible first | refine Wp.seq ?_ | refine Wp.reg ?_ | refine Wp.block ?_ | refine Wp.skip ?_ | refine Wp.ret ?_ | refine Wp.exit ?_ | refine Wp.label ?_ | refine Wp.condG ?_) | simp (disch := omega) only [↓RP, RQ, TS, TR, ↓reduceIte, Nat.reduceEqDiff, Nat.reduceLT, Nat.reduceLeDiff, Int.reduceLT, Int.reduceLE, Int.reduceEq, Int.reduceAdd, Int.reduceSub, Int.reduceNeg, Int.reduceToNat, Nat.reduceAdd, Nat.reduceMul, Nat.reduceSub, reduceCtorEq, RC, Int.cast_ofNat_Int, hn, g1, g2, g5, g6, tB27n]
      refine hS.eStore 4 rfl [I 0, .slice none 0 0] rfl rfl tS27 (by simp) fun H5 hS => ?_
      simp only [List.nil_append, List.cons_append, List.append_nil, List.set_cons_zero, List.set_cons_succ, setMany_cons, setMany_nil, Nat.zero_add, Nat.mul_one, Nat.add_zero] at hS
      repeat first | (with_reducible first | refine Wp.seq ?_ | refine Wp.reg ?_ | refine Wp.block ?_ | refine Wp.skip ?_ | refine Wp.ret ?_ | refine Wp.exit ?_ | refine Wp.label ?_ | refine Wp.condG ?_) | simp (disch := omega) only [↓RP, RQ, TS, TR, ↓reduceIte, Nat.reduceEqDiff, Nat.reduceLT, Nat.reduceLeDiff, Int.reduceLT, Int.reduceLE, Int.reduceEq, Int.reduceAdd, Int.reduceSub, Int.reduceNeg, Int.reduceToNat, Nat.reduceAdd, Nat.reduceMul, Nat.reduceSub, reduceCtorEq, RC, Int.cast_ofNat_Int, hn, g1, g2, g5, g6, tR27, hS.ldA 4 rfl]
      exact ⟨ds, hds, .inr ⟨by omega, hS.forget⟩⟩
    · repeat first | (with_reducible first | refine Wp.seq ?_ | refine Wp.reg ?_ | refine Wp.block ?_ | refine Wp.skip ?_ | refine Wp.ret ?_ | refine Wp.exit ?_ | refine Wp.label ?_ | refine Wp.condG ?_) | simp (disch := omega) only [↓RP, RQ, TS, TR, ↓reduceIte, Nat.reduceEqDiff, Nat.reduceLT, Nat.reduceLeDiff, Int.reduceLT, Int.reduceLE, Int.reduceEq, Int.reduceAdd, Int.reduceSub, Int.reduceNeg, Int.reduceToNat, Nat.reduceAdd, Nat.reduceMul, Nat.reduceSub, reduceCtorEq, RC, Int.cast_ofNat_Int, hn, g1, g2, g5, g6, hS.ldA 1 rfl]
      refine hS.eStore 4 rfl [I i, wE] rfl (by simp [hw.2.1]; rfl) tS27 (by simp) fun H5 hS => ?_
      simp only [List.nil_append, List.cons_append, List.append_nil, List.set_cons_zero, List.set_cons_succ, setMany_cons, setMany_nil, Nat.zero_add, Nat.mul_one, Nat.add_zero] at hS
      repeat first | (with_reducible first | refine Wp.seq ?_ | refine Wp.reg ?_ | refine Wp.block ?_ | refine Wp.skip ?_ | refine Wp.ret ?_ | refine Wp.exit ?_ | refine Wp.label ?_ | refine Wp.condG ?_) | simp (disch := omega) only [↓RP, RQ, TS, TR, ↓reduceIte, Nat.reduceEqDiff, Nat.reduceLT, Nat.reduceLeDiff, Int.reduceLT, Int.reduceLE, Int.reduceEq, Int.reduceAdd, Int.reduceSub, Int.reduceNeg, Int.reduceToNat, Nat.reduceAdd, Nat.reduceMul, Nat.reduceSub, reduceCtorEq, RC, Int.cast_ofNat_Int, hn, g1, g2, g5, g6, tR27, hS.ldA 4 rfl]
      exact ⟨ds, hds, .inl ⟨by omega, wE, rfl, hS.sub (.cons_cons _ (List.nil_sublist _))⟩⟩
end Go.Ds
/-
  Plain: what the law on Reach and Distance compares.
-/
namespace Go.Plain

theorem IsD.eq {es : List (Nat × Nat)} {N s : Nat} {d d' : List Int} (h : IsD es N s d) (h' : IsD es N s d') : d = d' := by
  apply List.ext_getElem (by rw [h.len, h'.len])
  intro k hk hk'
  have hkN : k < N := by rw [← h.len]; exact hk
  have e1 : d[k] = d.getD k 0 := by simp [List.getD_eq_getElem?_getD, hk]
  have e2 : d'[k] = d'.getD k 0 := by simp [List.getD_eq_getElem?_getD, hk']
  rw [e1, e2]
  by_cases h1 : d.getD k 0 < 0
  · have a1 := h.neg k hkN h1
    by_cases h2 : d'.getD k 0 < 0
    · rw [a1.1, (h'.neg k hkN h2).1]
    · exact (a1.2 _ (h'.pos k hkN (by omega)).1).elim
  · have a1 := h.pos k hkN (by omega)
    by_cases h2 : d'.getD k 0 < 0
    · exact ((h'.neg k hkN h2).2 _ a1.1).elim
    · have a2 := h'.pos k hkN (by omega)
      have b1 := a1.2 _ a2.1
      have b2 := a2.2 _ a1.1
      omega

theorem want_eq {es : List (Nat × Nat)} {N s : Nat} {d : List Int} {row : List Nat} (h : IsD es N s d) (hr : IsS es N s row) (i : Nat) (hi : i < N) :
    d.getD i 0 = if i = s then 0 else if row.getD i 0 = 0 then -1 else (row.getD i 0 : Int) := by
  split
  · rename_i e
    by_cases h1 : d.getD i 0 < 0
    · exact ((h.neg i hi h1).2 0 e.symm).elim
    · have := (h.pos i hi (by omega)).2 0 e.symm
      omega
  · rename_i e
    split
    · rename_i h0
      by_cases h1 : d.getD i 0 < 0
      · exact (h.neg i hi h1).1
      · have a := (h.pos i hi (by omega)).1
        cases hm : (d.getD i 0).toNat with
        | zero => rw [hm] at a; exact (e a.symm).elim
        | succ m => rw [hm] at a; exact (hr.zero i hi h0 m a).elim
    · rename_i h0
      have a := hr.pos i hi (by omega)
      by_cases h1 : d.getD i 0 < 0
      · exact ((h.neg i hi h1).2 _ a.1).elim
      · have b := h.pos i hi (by omega)
        have c := b.2 _ a.1
        cases hm : (d.getD i 0).toNat with
        | zero => rw [hm] at b; exact (e b.1.symm).elim
        | succ m =>
          rw [hm] at b
          have := a.2 m b.1
          omega

/-- The chosen numbers below a bound. -/
theorem filter_at (p : Nat → Bool) (N i : Nat) (hi : i < N) (hp : p i = true) : ((List.range i).filter p).length < ((List.range N).filter p).length ∧ ((List.range N).filter p).getD ((List.range i).filter p).length 0 = i := by
  have e : List.range N = List.range i ++ i :: (List.range' (i + 1) (N - (i + 1))) := by
    have : i :: (List.range' (i + 1) (N - (i + 1))) = List.range' i (N - i) := by
      rw [← List.range'_succ]
      congr 1
      omega
    have h2 := List.range'_append_1 (s := 0) (m := i) (n := N - i)
    rw [Nat.zero_add, show i + (N - i) = N from by omega] at h2
    rw [this, List.range_eq_range', List.range_eq_range', h2]
  rw [e, List.filter_append, List.filter_cons, hp]
  simp [List.getD_eq_getElem?_getD]
end Go.Plain
/-
  Contracts: members, Components.
-/
namespace Go.Ds
open Go.Proofs Go.Plain
variable {H : Heap}

/-- Two nodes reach each other, by tables of distances. -/
def mu (ds : Nat → List Int) (i k : Nat) : Bool := decide (0 ≤ (ds i).getD k 0) && decide (0 ≤ (ds k).getD i 0)
theorem mu_iff {es : List (Nat × Nat)} {N : Nat} {ds : Nat → List Int} (hds : ∀ i, i < N → IsD es N i (ds i)) {i k : Nat} (hi : i < N) (hk : k < N) : mu ds i k = true ↔ (∃ n, W es n i k) ∧ ∃ n, W es n k i := by
  have h1 : ∀ i k, i < N → k < N → (0 ≤ (ds i).getD k 0 ↔ ∃ n, W es n i k) := fun i k hi hk => by
    have hd := hds i hi
    constructor
    · intro h0
      exact ⟨_, (hd.pos k hk h0).1⟩
    · rintro ⟨n, hw⟩
      apply Classical.byContradiction
      intro hh
      exact (hd.neg k hk (by omega)).2 n hw
  unfold mu
  rw [Bool.and_eq_true, decide_eq_true_eq, decide_eq_true_eq, h1 i k hi hk, h1 k i hk hi]

/-- The nodes of a node's component, of the first ones. -/
def grp (ds : Nat → List Int) (i K : Nat) : List Nat := (List.range K).filter fun k => mu ds i k
theorem grp_succ (ds : Nat → List Int) (i k : Nat) : grp ds i (k + 1) = grp ds i k ++ (if mu ds i k = true then [k] else []) := by
  unfold grp
  rw [List.range_succ, List.filter_append]
  congr 1
  by_cases h : mu ds i k = true
  · simp [h]
  · simp [h]
theorem grp_le (ds : Nat → List Int) (i K : Nat) : (grp ds i K).length ≤ K := by
  unfold grp
  refine Nat.le_trans (List.length_filter_le _ _) ?_
  simp

/-- The least node that a node reaches there and back. -/
def ld (ds : Nat → List Int) (k : Nat) : Nat := ((List.range (k + 1)).findIdx fun j => mu ds j k)
/-- The least nodes of the components, of the first nodes. -/
def lds (ds : Nat → List Int) (I : Nat) : List Nat := (List.range I).filter fun i => decide (ld ds i = i)
theorem lds_succ (ds : Nat → List Int) (i : Nat) : lds ds (i + 1) = lds ds i ++ (if ld ds i = i then [i] else []) := by
  unfold lds
  rw [List.range_succ, List.filter_append]
  congr 1
  by_cases h : ld ds i = i
  · simp [h]
  · simp [h]
theorem lds_le (ds : Nat → List Int) (I : Nat) : (lds ds I).length ≤ I := by
  unfold lds
  refine Nat.le_trans (List.length_filter_le _ _) ?_
  simp

/-- There and back is an equivalence. -/
structure Eqv (ds : Nat → List Int) (N : Nat) : Prop where
  rf : ∀ i, i < N → mu ds i i = true
  sy : ∀ i j, i < N → j < N → mu ds i j = true → mu ds j i = true
  tr : ∀ i j k, i < N → j < N → k < N → mu ds i j = true → mu ds j k = true → mu ds i k = true
theorem W_cat {es : List (Nat × Nat)} : ∀ {m n a b c : Nat}, W es n a b → W es m b c → W es (n + m) a c
  | 0, n, a, b, c, h1, h2 => by
    have : b = c := h2
    rw [← this]; exact h1
  | m + 1, n, a, b, c, h1, h2 => by
    obtain ⟨x, h3, h4⟩ := h2
    exact ⟨x, W_cat h1 h3, h4⟩
theorem eqv_of {es : List (Nat × Nat)} {N : Nat} {ds : Nat → List Int} (hds : ∀ i, i < N → IsD es N i (ds i)) : Eqv ds N where
  rf i hi := (mu_iff hds hi hi).2 ⟨⟨0, rfl⟩, 0, rfl⟩
  sy i j hi hj h := by
    have := (mu_iff hds hi hj).1 h
    exact (mu_iff hds hj hi).2 ⟨this.2, this.1⟩
  tr i j k hi hj hk h1 h2 := by
    obtain ⟨⟨_, a1⟩, _, a2⟩ := (mu_iff hds hi hj).1 h1
    obtain ⟨⟨_, b1⟩, _, b2⟩ := (mu_iff hds hj hk).1 h2
    exact (mu_iff hds hi hk).2 ⟨⟨_, W_cat a1 b1⟩, _, W_cat b2 a2⟩

section
variable {ds : Nat → List Int} {N : Nat}
theorem ld_spec (h : Eqv ds N) {k : Nat} (hk : k < N) : ld ds k ≤ k ∧ mu ds (ld ds k) k = true ∧ ∀ j, j < ld ds k → mu ds j k = false := by
  have hlt : (List.range (k + 1)).findIdx (fun j => mu ds j k) < (List.range (k + 1)).length := by
    apply List.findIdx_lt_length_of_exists
    exact ⟨k, List.mem_range.2 (by omega), h.rf k hk⟩
  rw [List.length_range] at hlt
  refine ⟨by unfold ld; omega, ?_, ?_⟩
  · have := List.findIdx_getElem (xs := List.range (k + 1)) (p := fun j => mu ds j k) (w := by rw [List.length_range]; exact hlt)
    rw [List.getElem_range] at this
    exact this
  · intro j hj
    have := List.not_of_lt_findIdx (xs := List.range (k + 1)) (p := fun j => mu ds j k) hj
    rw [List.getElem_range] at this
    simpa using this
theorem ld_least (h : Eqv ds N) {j k : Nat} (hk : k < N) (hm : mu ds j k = true) : ld ds k ≤ j := by
  apply Classical.byContradiction
  intro hh
  have := (ld_spec h hk).2.2 j (by omega)
  rw [hm] at this; cases this
theorem ld_eq (h : Eqv ds N) {j k : Nat} (hj : j < N) (hk : k < N) (hm : mu ds j k = true) : ld ds j = ld ds k := by
  have h1 := ld_spec h hj
  have h2 := ld_spec h hk
  have a := ld_least h hk (h.tr _ _ _ (by omega) hj hk h1.2.1 hm)
  have b := ld_least h hj (h.tr _ _ _ (by omega) hk hj h2.2.1 (h.sy _ _ hj hk hm))
  omega
theorem ld_idem (h : Eqv ds N) {k : Nat} (hk : k < N) : ld ds (ld ds k) = ld ds k := by
  have h1 := ld_spec h hk
  exact ld_eq h (by omega) hk h1.2.1
theorem ld_iff (h : Eqv ds N) {i k : Nat} (hi : i < N) (hk : k < N) (hl : ld ds i = i) : ld ds k = i ↔ mu ds i k = true := by
  constructor
  · intro e
    have := (ld_spec h hk).2.1
    rwa [e] at this
  · intro hm
    rw [← ld_eq h hi hk hm, hl]
end

/-- The number of a node's component, once it has begun among the first nodes. -/
def cn (ds : Nat → List Int) (i k : Nat) : Int := if ld ds k < i then ((lds ds (ld ds k)).length : Int) else -1
/-- .. while the component of a node is laid. -/
def cj (ds : Nat → List Int) (i j k : Nat) : Int := if k < j ∧ mu ds i k = true then ((lds ds i).length : Int) else cn ds i k
theorem cn_skip {ds : Nat → List Int} {N : Nat} (h : Eqv ds N) {i k : Nat} (hi : i < N) (hk : k < N) (hl : ld ds i ≠ i) : cn ds (i + 1) k = cn ds i k := by
  unfold cn
  by_cases h1 : ld ds k < i
  · rw [if_pos h1, if_pos (by omega)]
  · by_cases h2 : ld ds k = i
    · have := ld_idem h hk
      rw [h2] at this
      exact (hl this).elim
    · rw [if_neg h1, if_neg (by omega)]
theorem cj_all {ds : Nat → List Int} {N : Nat} (h : Eqv ds N) {i k : Nat} (hi : i < N) (hk : k < N) (hl : ld ds i = i) : cj ds i N k = cn ds (i + 1) k := by
  unfold cj
  have e := ld_iff h hi hk hl
  by_cases hm : mu ds i k = true
  · rw [if_pos ⟨hk, hm⟩]
    unfold cn
    rw [e.2 hm, if_pos (by omega)]
  · rw [if_neg (fun hh => hm hh.2)]
    unfold cn
    have : ld ds k ≠ i := fun hh => hm (e.1 hh)
    by_cases h1 : ld ds k < i
    · rw [if_pos h1, if_pos (by omega)]
    · rw [if_neg h1, if_neg (by omega)]
theorem cn_neg {ds : Nat → List Int} {N : Nat} (h : Eqv ds N) {i : Nat} (hi : i < N) : 0 ≤ cn ds i i ↔ ld ds i ≠ i := by
  have := (ld_spec h hi).1
  unfold cn
  by_cases h1 : ld ds i < i
  · rw [if_pos h1]; omega
  · rw [if_neg h1]; omega

abbrev tb (N : Nat) (f : Nat → Int) : List Value := (List.range N).map fun k => I (f k)
theorem tb_set (N : Nat) (f g : Nat → Int) (j : Nat) (h : ∀ k, k ≠ j → g k = f k) : (tb N f).set j (I (g j)) = tb N g := by
  unfold tb
  rw [map_upd]
  apply List.map_congr_left
  intro k _
  unfold upd
  split
  · rename_i e; rw [e]
  · rename_i e; rw [h k e]
/-- The components, as lists, of the first least nodes. -/
def gr (ds : Nat → List Int) (N m : Nat) : List Nat := grp ds ((lds ds N).getD m 0) N
theorem lds_pre (ds : Nat → List Int) (N i : Nat) (hi : i < N) (hl : ld ds i = i) : (lds ds N).getD (lds ds i).length 0 = i := by
  obtain ⟨m, rfl⟩ : ∃ m, N = i + 1 + m := ⟨N - (i + 1), by omega⟩
  have : ∃ r, lds ds (i + 1 + m) = lds ds i ++ i :: r := by
    induction m with
    | zero => exact ⟨[], by rw [Nat.add_zero, lds_succ, if_pos hl]⟩
    | succ m ih =>
      obtain ⟨r, hr⟩ := ih (by omega)
      refine ⟨r ++ (if ld ds (i + 1 + m) = i + 1 + m then [i + 1 + m] else []), ?_⟩
      rw [← Nat.add_assoc, lds_succ, hr]
      simp
  obtain ⟨r, hr⟩ := this
  rw [hr]
  simp [List.getD_eq_getElem?_getD]
theorem inner_succ (M : Nat) (ws : Nat → Value) (nx : Nat → List Nat) (w : Value) : inner (M + 1) (upd ws M w) nx = inner M ws nx ++ [⟨w, 1, nts (nx M)⟩] := by
  unfold inner
  rw [List.range_succ, List.map_append]
  congr 1
  · exact List.map_congr_left fun j hj => by
      have := List.mem_range.1 hj
      unfold upd; rw [if_neg (by omega)]
  · simp [upd]
theorem ws_succ (M : Nat) (ws : Nat → Value) (w : Value) : (List.range (M + 1)).map (upd ws M w) = (List.range M).map ws ++ [w] := by
  rw [List.range_succ, List.map_append]
  congr 1
  · exact List.map_congr_left fun j hj => by
      have := List.mem_range.1 hj
      unfold upd; rw [if_neg (by omega)]
  · simp [upd]

/-- The tables of distances, and nothing behind. -/
def IsT (es : List (Nat × Nat)) (N : Nat) (ds : Nat → List Int) : Prop := (∀ i, i < N → IsD es N i (ds i)) ∧ ∀ i, N ≤ i → ds i = []
theorem IsT.uniq {es : List (Nat × Nat)} {N : Nat} {ds ds' : Nat → List Int} (h : IsT es N ds) (h' : IsT es N ds') : ds = ds' := by
  funext i
  by_cases hi : i < N
  · exact (h.1 i hi).eq (h'.1 i hi)
  · rw [h.2 i (by omega), h'.2 i (by omega)]

theorem innerB_getA (N : Nat) (ws : Nat → Value) (nx : Nat → List Bool) (os : List Ob) (j : Nat) (hj : j < N) : (innerB N ws nx ++ os)[j]? = some ⟨ws j, 0 + 1, bls (nx j)⟩ := by
  rw [List.getElem?_append_left (by simpa [innerB] using hj)]
  exact innerB_get N ws nx j hj

set_option maxHeartbeats 2000000 in
theorem members_ok (N : Nat) (v : Value) (es : List (Nat × Nat)) (hv : Eg H v es) (h1N : 1 ≤ N) (hN : N ≤ 200) (he : es.length ≤ 1000) (hval : ∀ e ∈ es, e.1 < N ∧ e.2 < N) :
    Fn Try.prog 45 [.agg #[I N, v]] H fun r H' => ∃ (ds : Nat → List Int) (dv ov : Value) (ws : Nat → Value), IsT es N ds ∧ r = .tuple #[dv, ov] ∧
      St Try.prog H H' (⟨dv, 1, tb N (cn ds N)⟩ :: ⟨ov, 1, (List.range (lds ds N).length).map ws⟩ :: inner (lds ds N).length ws (gr ds N)) := by
  have hrl : (List.range N).length = N := List.length_range
  refine Fn.of_wp (fn := Try.f45) rfl rfl (by kernel_rfl) fun l hl => ?_
  have hn : l.length = 64 := by rw [hl]; rfl
  have g0 : get l 0 = .agg #[I N, v] := by rw [hl]; rfl
  clear hl
  repeat first | (with_reducible first | refine Wp.seq ?_ | refine Wp.reg ?_ | refine Wp.block ?_ | refine Wp.skip ?_ | refine Wp.ret ?_ | refine Wp.exit ?_ | refine Wp.label ?_ | refine Wp.condG ?_) | simp (disch := omega) only [↓RP, RQ, TS, TR, ↓reduceIte, Nat.reduceEqDiff, Nat.reduceLT, Nat.reduceLeDiff, Int.reduceLT, Int.reduceLE, Int.reduceEq, Int.reduceAdd, Int.reduceSub, Int.reduceNeg, Int.reduceToNat, Nat.reduceAdd, Nat.reduceMul, Nat.reduceSub, reduceCtorEq, RC, Int.cast_ofNat_Int, hn, g0]
  refine (St.refl _ H).eNew 2 [I N, v] rfl rfl (by simp [hv.one]; rfl) tS27 fun A H1 hS => ?_
  repeat first | (with_reducible first | refine Wp.seq ?_ | refine Wp.reg ?_ | refine Wp.block ?_ | refine Wp.skip ?_ | refine Wp.ret ?_ | refine Wp.exit ?_ | refine Wp.label ?_ | refine Wp.condG ?_) | simp (disch := omega) only [↓RP, RQ, TS, TR, ↓reduceIte, Nat.reduceEqDiff, Nat.reduceLT, Nat.reduceLeDiff, Int.reduceLT, Int.reduceLE, Int.reduceEq, Int.reduceAdd, Int.reduceSub, Int.reduceNeg, Int.reduceToNat, Nat.reduceAdd, Nat.reduceMul, Nat.reduceSub, reduceCtorEq, RC, Int.cast_ofNat_Int, hn, g0, hS.ldA 0 rfl]
  refine callFW_of (reached_ok N v es (hS.base hv) hN he hval) ?_
  rintro wr H2 ⟨wrs, ds0, hds0, hS2⟩
  obtain ⟨ds, hT, hsame⟩ : ∃ ds, IsT es N ds ∧ ∀ i, i < N → ds i = ds0 i := by
    refine ⟨fun i => if i < N then ds0 i else [], ⟨fun i hi => ?_, fun i hi => if_neg (by omega)⟩, fun i hi => if_pos hi⟩
    simp only
    rw [if_pos hi]
    exact hds0 i hi
  have hds := hT.1
  rw [show (innerB N wrs fun i => rb (ds0 i)) = innerB N wrs fun i => rb (ds i) from List.map_congr_left fun i hi => by simp only [hsame i (List.mem_range.1 hi)]] at hS2
  have hE := eqv_of hds
  have hS := hS.trans hS2
  simp only [List.nil_append, List.cons_append, List.append_nil, List.set_cons_zero, List.set_cons_succ, setMany_cons, setMany_nil, Nat.zero_add, Nat.mul_one, Nat.add_zero] at hS
  repeat first | (with_reducible first | refine Wp.seq ?_ | refine Wp.reg ?_ | refine Wp.block ?_ | refine Wp.skip ?_ | refine Wp.ret ?_ | refine Wp.exit ?_ | refine Wp.label ?_ | refine Wp.condG ?_) | simp (disch := omega) only [↓RP, RQ, TS, TR, ↓reduceIte, Nat.reduceEqDiff, Nat.reduceLT, Nat.reduceLeDiff, Int.reduceLT, Int.reduceLE, Int.reduceEq, Int.reduceAdd, Int.reduceSub, Int.reduceNeg, Int.reduceToNat, Nat.reduceAdd, Nat.reduceMul, Nat.reduceSub, reduceCtorEq, RC, Int.cast_ofNat_Int, hn, g0]
  refine hS.eSlice [I (-1)] tP29 tF29 rfl rfl (by simp [Value.cells]) rfl rfl (by decide) (by decide) fun x H3 hS => ?_
  have hS := hS.front
  repeat first | (with_reducible first | refine Wp.seq ?_ | refine Wp.reg ?_ | refine Wp.block ?_ | refine Wp.skip ?_ | refine Wp.ret ?_ | refine Wp.exit ?_ | refine Wp.label ?_ | refine Wp.condG ?_) | simp (disch := omega) only [↓RP, RQ, TS, TR, ↓reduceIte, Nat.reduceEqDiff, Nat.reduceLT, Nat.reduceLeDiff, Int.reduceLT, Int.reduceLE, Int.reduceEq, Int.reduceAdd, Int.reduceSub, Int.reduceNeg, Int.reduceToNat, Nat.reduceAdd, Nat.reduceMul, Nat.reduceSub, reduceCtorEq, RC, Int.cast_ofNat_Int, hn, g0, hS.ld 1 rfl]
  refine callFW_of (repeat_ok N h1N hN x (hS.rd 0 rfl)) ?_
  rintro dv H4 hS2
  have hS := ((hS.tail.trans hS2).front.nil 0).front
  simp only [List.nil_append, List.cons_append, List.append_nil, List.set_cons_zero, List.set_cons_succ, setMany_cons, setMany_nil, Nat.zero_add, Nat.mul_one, Nat.add_zero] at hS
  repeat first | (with_reducible first | refine Wp.seq ?_ | refine Wp.reg ?_ | refine Wp.block ?_ | refine Wp.skip ?_ | refine Wp.ret ?_ | refine Wp.exit ?_ | refine Wp.label ?_ | refine Wp.condG ?_) | simp (disch := omega) only [↓RP, RQ, TS, TR, ↓reduceIte, Nat.reduceEqDiff, Nat.reduceLT, Nat.reduceLeDiff, Int.reduceLT, Int.reduceLE, Int.reduceEq, Int.reduceAdd, Int.reduceSub, Int.reduceNeg, Int.reduceToNat, Nat.reduceAdd, Nat.reduceMul, Nat.reduceSub, reduceCtorEq, RC, Int.cast_ofNat_Int, hn, g0, hS.ld 2 rfl]
  refine Wp.loopN (fun n l H' => l.length = 64 ∧ get l 1 = ptr A 0 2 ∧ get l 4 = wr ∧ get l 5 = dv ∧ get l 17 = I N ∧ ∃ (i : Nat) (ov : Value) (ws : Nat → Value), n + i = N ∧ get l 18 = I i ∧ get l 6 = ov ∧
    St Try.prog H H' (⟨ov, 1, (List.range (lds ds i).length).map ws⟩ :: ⟨dv, 1, tb N (cn ds i)⟩ :: ⟨ptr A 0 2, 0, [I N, v]⟩ :: ⟨wr, 1, (List.range N).map wrs⟩ :: ((innerB N wrs fun i => rb (ds i)) ++ inner (lds ds i).length ws (gr ds N)))) N ?_ ?_
  · repeat first | (with_reducible first | refine Wp.seq ?_ | refine Wp.reg ?_ | refine Wp.block ?_ | refine Wp.skip ?_ | refine Wp.ret ?_ | refine Wp.exit ?_ | refine Wp.label ?_ | refine Wp.condG ?_) | simp (disch := omega) only [↓RP, RQ, TS, TR, ↓reduceIte, Nat.reduceEqDiff, Nat.reduceLT, Nat.reduceLeDiff, Int.reduceLT, Int.reduceLE, Int.reduceEq, Int.reduceAdd, Int.reduceSub, Int.reduceNeg, Int.reduceToNat, Nat.reduceAdd, Nat.reduceMul, Nat.reduceSub, reduceCtorEq, RC, Int.cast_ofNat_Int, hn, g0]
    refine ⟨0, _, fun _ => undef, rfl, rfl, rfl, ?_⟩
    have e1 : lds ds 0 = [] := rfl
    have e2 : tb N (cn ds 0) = List.replicate N (I (-1)) := by
      unfold tb cn
      simp only [Nat.not_lt_zero, if_false]
      rw [List.map_const', List.length_range]
    rw [e1, e2]
    simpa [inner] using hS
  clear hS hS2 hn g0
  rintro n l H' ⟨hn, g1, g4, g5, g17, i, ov, ws, hi, g18, g6, hS⟩
  repeat first | (with_reducible first | refine Wp.seq ?_ | refine Wp.reg ?_ | refine Wp.block ?_ | refine Wp.skip ?_ | refine Wp.ret ?_ | refine Wp.exit ?_ | refine Wp.label ?_ | refine Wp.condG ?_) | simp (disch := omega) only [↓RP, RQ, TS, TR, ↓reduceIte, Nat.reduceEqDiff, Nat.reduceLT, Nat.reduceLeDiff, Int.reduceLT, Int.reduceLE, Int.reduceEq, Int.reduceAdd, Int.reduceSub, Int.reduceNeg, Int.reduceToNat, Nat.reduceAdd, Nat.reduceMul, Nat.reduceSub, reduceCtorEq, RC, Int.cast_ofNat_Int, hn, g1, g4, g5, g6, g17, g18]
  refine condW_split (fun h => ?_) (fun h => ?_)
  · have hiN : i < N := by omega
    have hlp := ld_spec hE hiN
    have hM := lds_le ds i
    have hd : Sl1 H' dv (fun k => I (cn ds i k)) (List.range N) := hS.rd 1 rfl
    have hneg := cn_neg hE hiN
    repeat first | (with_reducible first | refine Wp.seq ?_ | refine Wp.reg ?_ | refine Wp.block ?_ | refine Wp.skip ?_ | refine Wp.ret ?_ | refine Wp.exit ?_ | refine Wp.label ?_ | refine Wp.condG ?_) | simp (disch := omega) only [↓RP, RQ, TS, TR, ↓reduceIte, Nat.reduceEqDiff, Nat.reduceLT, Nat.reduceLeDiff, Int.reduceLT, Int.reduceLE, Int.reduceEq, Int.reduceAdd, Int.reduceSub, Int.reduceNeg, Int.reduceToNat, Nat.reduceAdd, Nat.reduceMul, Nat.reduceSub, reduceCtorEq, RC, Int.cast_ofNat_Int, hn, g1, g4, g5, g6, g17, g18, hd.idx, hd.ld 0, getD_range]
    refine condW_split (fun h2 => ?_) (fun h2 => ?_)
    · have hl := hneg.1 h2
      repeat first | (with_reducible first | refine Wp.seq ?_ | refine Wp.reg ?_ | refine Wp.block ?_ | refine Wp.skip ?_ | refine Wp.ret ?_ | refine Wp.exit ?_ | refine Wp.label ?_ | refine Wp.condG ?_) | simp (disch := omega) only [↓RP, RQ, TS, TR, ↓reduceIte, Nat.reduceEqDiff, Nat.reduceLT, Nat.reduceLeDiff, Int.reduceLT, Int.reduceLE, Int.reduceEq, Int.reduceAdd, Int.reduceSub, Int.reduceNeg, Int.reduceToNat, Nat.reduceAdd, Nat.reduceMul, Nat.reduceSub, reduceCtorEq, RC, Int.cast_ofNat_Int, hn, g1, g4, g5, g6, g17, g18, wrap_fit]
      refine ⟨n - 1, by omega, i + 1, ov, ws, by omega, rfl, rfl, ?_⟩
      have e2 : tb N (cn ds (i + 1)) = tb N (cn ds i) := List.map_congr_left fun k hk => by rw [cn_skip hE hiN (List.mem_range.1 hk) hl]
      rw [lds_succ, if_neg hl, List.append_nil, e2]
      exact hS
    · have hl : ld ds i = i := Classical.byContradiction fun hh => h2 (hneg.2 hh)
      have hS := (hS.nil 0).front
      repeat first | (with_reducible first | refine Wp.seq ?_ | refine Wp.reg ?_ | refine Wp.block ?_ | refine Wp.skip ?_ | refine Wp.ret ?_ | refine Wp.exit ?_ | refine Wp.label ?_ | refine Wp.condG ?_) | simp (disch := omega) only [↓RP, RQ, TS, TR, ↓reduceIte, Nat.reduceEqDiff, Nat.reduceLT, Nat.reduceLeDiff, Int.reduceLT, Int.reduceLE, Int.reduceEq, Int.reduceAdd, Int.reduceSub, Int.reduceNeg, Int.reduceToNat, Nat.reduceAdd, Nat.reduceMul, Nat.reduceSub, reduceCtorEq, RC, Int.cast_ofNat_Int, hn, g1, g4, g5, g6, g17, g18, hS.ld 3 rfl]
      refine Wp.loopN (fun m l H' => l.length = 64 ∧ get l 1 = ptr A 0 2 ∧ get l 4 = wr ∧ get l 5 = dv ∧ get l 6 = ov ∧ get l 7 = I i ∧ get l 17 = I N ∧ get l 18 = I i ∧ get l 27 = I N ∧ ∃ (j : Nat) (lv : Value), m + j = N ∧ get l 28 = I j ∧ get l 8 = lv ∧
        St Try.prog H H' (⟨lv, 1, nts (grp ds i j)⟩ :: ⟨ov, 1, (List.range (lds ds i).length).map ws⟩ :: ⟨dv, 1, tb N (cj ds i j)⟩ :: ⟨ptr A 0 2, 0, [I N, v]⟩ :: ⟨wr, 1, (List.range N).map wrs⟩ :: ((innerB N wrs fun i => rb (ds i)) ++ inner (lds ds i).length ws (gr ds N)))) N ?_ ?_
      · repeat first | (with_reducible first | refine Wp.seq ?_ | refine Wp.reg ?_ | refine Wp.block ?_ | refine Wp.skip ?_ | refine Wp.ret ?_ | refine Wp.exit ?_ | refine Wp.label ?_ | refine Wp.condG ?_) | simp (disch := omega) only [↓RP, RQ, TS, TR, ↓reduceIte, Nat.reduceEqDiff, Nat.reduceLT, Nat.reduceLeDiff, Int.reduceLT, Int.reduceLE, Int.reduceEq, Int.reduceAdd, Int.reduceSub, Int.reduceNeg, Int.reduceToNat, Nat.reduceAdd, Nat.reduceMul, Nat.reduceSub, reduceCtorEq, RC, Int.cast_ofNat_Int, hn, g1, g4, g5, g6, g17, g18]
        refine ⟨0, _, rfl, rfl, rfl, ?_⟩
        have e2 : tb N (cj ds i 0) = tb N (cn ds i) := List.map_congr_left fun k _ => by unfold cj; rw [if_neg (by omega)]
        rw [e2]
        exact hS
      clear hn g1 g4 g5 g6 g17 g18 hS hd
      rintro m l H' ⟨hn, g1, g4, g5, g6, g7, g17, g18, g27, j, lv, hj, g28, g8, hS⟩
      repeat first | (with_reducible first | refine Wp.seq ?_ | refine Wp.reg ?_ | refine Wp.block ?_ | refine Wp.skip ?_ | refine Wp.ret ?_ | refine Wp.exit ?_ | refine Wp.label ?_ | refine Wp.condG ?_) | simp (disch := omega) only [↓RP, RQ, TS, TR, ↓reduceIte, Nat.reduceEqDiff, Nat.reduceLT, Nat.reduceLeDiff, Int.reduceLT, Int.reduceLE, Int.reduceEq, Int.reduceAdd, Int.reduceSub, Int.reduceNeg, Int.reduceToNat, Nat.reduceAdd, Nat.reduceMul, Nat.reduceSub, reduceCtorEq, RC, Int.cast_ofNat_Int, hn, g1, g4, g5, g6, g7, g8, g17, g18, g27, g28]
      refine condW_split (fun h3 => ?_) (fun h3 => ?_)
      · have hjN : j < N := by omega
        have hr : Sl1 H' wr wrs (List.range N) := hS.rd 4 rfl
        have hri : Sl1 H' (wrs i) (fun b : Bool => .bool b) (rb (ds i)) := hS.rd (i + 5) (innerB_getA N wrs _ _ _ hiN)
        have hrj : Sl1 H' (wrs j) (fun b : Bool => .bool b) (rb (ds j)) := hS.rd (j + 5) (innerB_getA N wrs _ _ _ hjN)
        have l1 : (rb (ds i)).length = N := by rw [rb_length, (hds i hiN).len]
        have l2 : (rb (ds j)).length = N := by rw [rb_length, (hds j hjN).len]
        have l3 := (hds i hiN).len
        have l4 := (hds j hjN).len
        have hmu : mu ds i j = (decide (0 ≤ (ds i).getD j 0) && decide (0 ≤ (ds j).getD i 0)) := rfl
        have hgs := grp_succ ds i j
        have hov : Sl1 H' ov ws (List.range (lds ds i).length) := hS.rd 1 rfl
        have hdv : Sl1 H' dv (fun k => I (cj ds i j k)) (List.range N) := hS.rd 2 rfl
        have hrl2 : (List.range (lds ds i).length).length = (lds ds i).length := List.length_range
        have hno : mu ds i j = false → cj ds i (j + 1) = cj ds i j := fun hb => by
          funext k
          unfold cj
          by_cases hk : k < j
          · by_cases hm : mu ds i k = true
            · rw [if_pos ⟨by omega, hm⟩, if_pos ⟨hk, hm⟩]
            · rw [if_neg (fun hh => hm hh.2), if_neg (fun hh => hm hh.2)]
          · rw [if_neg (c := k < j ∧ _) (fun hh => hk hh.1)]
            by_cases hkj : k = j
            · subst hkj; rw [if_neg (fun hh => by rw [hb] at hh; exact absurd hh.2 (by decide))]
            · rw [if_neg (by omega)]
        have hyes : mu ds i j = true → (tb N (cj ds i j)).set j (I (lds ds i).length) = tb N (cj ds i (j + 1)) := fun hb => by
          have e : cj ds i (j + 1) j = ((lds ds i).length : Int) := by unfold cj; rw [if_pos ⟨by omega, hb⟩]
          rw [← e]
          refine tb_set N (cj ds i j) (cj ds i (j + 1)) j fun k hk => ?_
          unfold cj
          by_cases hkj : k < j
          · by_cases hm : mu ds i k = true
            · rw [if_pos ⟨by omega, hm⟩, if_pos ⟨hkj, hm⟩]
            · rw [if_neg (fun hh => hm hh.2), if_neg (fun hh => hm hh.2)]
          · rw [if_neg (by omega), if_neg (by omega)]
        generalize hb1 : decide (0 ≤ (ds i).getD j 0) = b1 at hmu
        generalize hb2 : decide (0 ≤ (ds j).getD i 0) = b2 at hmu
        cases b1 with
        | false =>
          have hmf : mu ds i j = false := by rw [hmu]; rfl
          rw [hmf, if_neg (by decide), List.append_nil] at hgs
          repeat first | (with_reducible first | refine Wp.seq ?_ | refine Wp.reg ?_ | refine Wp.block ?_ | refine Wp.skip ?_ | refine Wp.ret ?_ | refine Wp.exit ?_ | refine Wp.label ?_ | refine Wp.condG ?_) | simp (disch := omega) only [↓RP, RQ, TS, TR, ↓reduceIte, Nat.reduceEqDiff, Nat.reduceLT, Nat.reduceLeDiff, Int.reduceLT, Int.reduceLE, Int.reduceEq, Int.reduceAdd, Int.reduceSub, Int.reduceNeg, Int.reduceToNat, Nat.reduceAdd, Nat.reduceMul, Nat.reduceSub, reduceCtorEq, RC, Int.cast_ofNat_Int, hn, g1, g4, g5, g6, g7, g8, g17, g18, g27, g28, hr.idx, hr.ld 0, getD_range, hri.idx, hri.ld false, rb_at, hb1, wrap_fit]
          refine ⟨m - 1, by omega, j + 1, lv, by omega, rfl, rfl, ?_⟩
          rw [hgs, hno hmf]
          exact hS
        | true =>
          cases b2 with
          | false =>
            have hmf : mu ds i j = false := by rw [hmu]; rfl
            rw [hmf, if_neg (by decide), List.append_nil] at hgs
            repeat first | (with_reducible first | refine Wp.seq ?_ | refine Wp.reg ?_ | refine Wp.block ?_ | refine Wp.skip ?_ | refine Wp.ret ?_ | refine Wp.exit ?_ | refine Wp.label ?_ | refine Wp.condG ?_) | simp (disch := omega) only [↓RP, RQ, TS, TR, ↓reduceIte, Nat.reduceEqDiff, Nat.reduceLT, Nat.reduceLeDiff, Int.reduceLT, Int.reduceLE, Int.reduceEq, Int.reduceAdd, Int.reduceSub, Int.reduceNeg, Int.reduceToNat, Nat.reduceAdd, Nat.reduceMul, Nat.reduceSub, reduceCtorEq, RC, Int.cast_ofNat_Int, hn, g1, g4, g5, g6, g7, g8, g17, g18, g27, g28, hr.idx, hr.ld 0, getD_range, hri.idx, hri.ld false, hrj.idx, hrj.ld false, rb_at, hb1, hb2, wrap_fit]
            refine ⟨m - 1, by omega, j + 1, lv, by omega, rfl, rfl, ?_⟩
            rw [hgs, hno hmf]
            exact hS
          | true =>
            have hmt : mu ds i j = true := by rw [hmu]; rfl
            rw [hmt, if_pos rfl] at hgs
            have hgl := grp_le ds i j
            repeat first | (with_reducible first | refine Wp.seq ?_ | refine Wp.reg ?_ | refine Wp.block ?_ | refine Wp.skip ?_ | refine Wp.ret ?_ | refine Wp.exit ?_ | refine Wp.label ?_ | refine Wp.condG ?_) | simp (disch := omega) only [↓RP, RQ, TS, TR, ↓reduceIte, Nat.reduceEqDiff, Nat.reduceLT, Nat.reduceLeDiff, Int.reduceLT, Int.reduceLE, Int.reduceEq, Int.reduceAdd, Int.reduceSub, Int.reduceNeg, Int.reduceToNat, Nat.reduceAdd, Nat.reduceMul, Nat.reduceSub, reduceCtorEq, RC, Int.cast_ofNat_Int, hn, g1, g4, g5, g6, g7, g8, g17, g18, g27, g28, hr.idx, hr.ld 0, getD_range, hri.idx, hri.ld false, hrj.idx, hrj.ld false, rb_at, hb1, hb2, hov.len, hdv.idx]
            refine hS.eStoreE 2 rfl [_] rfl rfl tS3 (by simp) (by simp only [List.length_map, List.length_cons, List.length_nil]; omega) fun H3 hS => ?_
            simp only [List.nil_append, List.cons_append, List.append_nil, List.set_cons_zero, List.set_cons_succ, setMany_cons, setMany_nil, Nat.zero_add, Nat.mul_one, Nat.add_zero] at hS
            rw [hrl2, hyes hmt] at hS
            repeat first | (with_reducible first | refine Wp.seq ?_ | refine Wp.reg ?_ | refine Wp.block ?_ | refine Wp.skip ?_ | refine Wp.ret ?_ | refine Wp.exit ?_ | refine Wp.label ?_ | refine Wp.condG ?_) | simp (disch := omega) only [↓RP, RQ, TS, TR, ↓reduceIte, Nat.reduceEqDiff, Nat.reduceLT, Nat.reduceLeDiff, Int.reduceLT, Int.reduceLE, Int.reduceEq, Int.reduceAdd, Int.reduceSub, Int.reduceNeg, Int.reduceToNat, Nat.reduceAdd, Nat.reduceMul, Nat.reduceSub, reduceCtorEq, RC, Int.cast_ofNat_Int, hn, g1, g4, g5, g6, g7, g8, g17, g18, g27, g28]
            refine hS.eSlice [I j] tP29 tF29 rfl rfl (by simp [Value.cells]) rfl rfl (by decide) (by decide) fun y H4 hS => ?_
            have hS := hS.front
            repeat first | (with_reducible first | refine Wp.seq ?_ | refine Wp.reg ?_ | refine Wp.block ?_ | refine Wp.skip ?_ | refine Wp.ret ?_ | refine Wp.exit ?_ | refine Wp.label ?_ | refine Wp.condG ?_) | simp (disch := omega) only [↓RP, RQ, TS, TR, ↓reduceIte, Nat.reduceEqDiff, Nat.reduceLT, Nat.reduceLeDiff, Int.reduceLT, Int.reduceLE, Int.reduceEq, Int.reduceAdd, Int.reduceSub, Int.reduceNeg, Int.reduceToNat, Nat.reduceAdd, Nat.reduceMul, Nat.reduceSub, reduceCtorEq, RC, Int.cast_ofNat_Int, hn, g1, g4, g5, g6, g7, g8, g17, g18, g27, g28]
            refine hS.eAppend 1 rfl (hS.rd 0 rfl) tP29 (by simp only [nts, List.length_map, List.length_cons, List.length_nil]; omega) fun lv' H5 hS => ?_
            simp only [List.nil_append, List.cons_append, List.append_nil, List.set_cons_zero, List.set_cons_succ, setMany_cons, setMany_nil, Nat.zero_add, Nat.mul_one, Nat.add_zero] at hS
            repeat first | (with_reducible first | refine Wp.seq ?_ | refine Wp.reg ?_ | refine Wp.block ?_ | refine Wp.skip ?_ | refine Wp.ret ?_ | refine Wp.exit ?_ | refine Wp.label ?_ | refine Wp.condG ?_) | simp (disch := omega) only [↓RP, RQ, TS, TR, ↓reduceIte, Nat.reduceEqDiff, Nat.reduceLT, Nat.reduceLeDiff, Int.reduceLT, Int.reduceLE, Int.reduceEq, Int.reduceAdd, Int.reduceSub, Int.reduceNeg, Int.reduceToNat, Nat.reduceAdd, Nat.reduceMul, Nat.reduceSub, reduceCtorEq, RC, Int.cast_ofNat_Int, hn, g1, g4, g5, g6, g7, g8, g17, g18, g27, g28, wrap_fit]
            refine ⟨m - 1, by omega, j + 1, lv', by omega, rfl, rfl, ?_⟩
            rw [hgs, show nts (grp ds i j ++ [j]) = nts (grp ds i j) ++ [I j] from by simp [nts]]
            exact hS.tail
      · have hje : j = N := by omega
        subst hje
        have hw := (hS.rd 0 rfl).cells
        repeat first | (with_reducible first | refine Wp.seq ?_ | refine Wp.reg ?_ | refine Wp.block ?_ | refine Wp.skip ?_ | refine Wp.ret ?_ | refine Wp.exit ?_ | refine Wp.label ?_ | refine Wp.condG ?_) | simp (disch := omega) only [↓RP, RQ, TS, TR, ↓reduceIte, Nat.reduceEqDiff, Nat.reduceLT, Nat.reduceLeDiff, Int.reduceLT, Int.reduceLE, Int.reduceEq, Int.reduceAdd, Int.reduceSub, Int.reduceNeg, Int.reduceToNat, Nat.reduceAdd, Nat.reduceMul, Nat.reduceSub, reduceCtorEq, RC, Int.cast_ofNat_Int, hn, g1, g4, g5, g6, g7, g8, g17, g18, g27, g28]
        refine hS.eSlice [lv] tP33 tF33 rfl rfl (by simp [hw.1]) (by simp [hw.1]) (by simp [hw.2.1]) (by decide) (by decide) fun y H4 hS => ?_
        have hS := hS.front
        repeat first | (with_reducible first | refine Wp.seq ?_ | refine Wp.reg ?_ | refine Wp.block ?_ | refine Wp.skip ?_ | refine Wp.ret ?_ | refine Wp.exit ?_ | refine Wp.label ?_ | refine Wp.condG ?_) | simp (disch := omega) only [↓RP, RQ, TS, TR, ↓reduceIte, Nat.reduceEqDiff, Nat.reduceLT, Nat.reduceLeDiff, Int.reduceLT, Int.reduceLE, Int.reduceEq, Int.reduceAdd, Int.reduceSub, Int.reduceNeg, Int.reduceToNat, Nat.reduceAdd, Nat.reduceMul, Nat.reduceSub, reduceCtorEq, RC, Int.cast_ofNat_Int, hn, g1, g4, g5, g6, g7, g8, g17, g18, g27, g28]
        refine hS.eAppend 2 rfl (hS.rd 0 rfl) tP33 (by simp only [List.length_map, List.length_range, List.length_cons, List.length_nil]; omega) fun ov' H5 hS => ?_
        simp only [List.nil_append, List.cons_append, List.append_nil, List.set_cons_zero, List.set_cons_succ, setMany_cons, setMany_nil, Nat.zero_add, Nat.mul_one, Nat.add_zero] at hS
        repeat first | (with_reducible first | refine Wp.seq ?_ | refine Wp.reg ?_ | refine Wp.block ?_ | refine Wp.skip ?_ | refine Wp.ret ?_ | refine Wp.exit ?_ | refine Wp.label ?_ | refine Wp.condG ?_) | simp (disch := omega) only [↓RP, RQ, TS, TR, ↓reduceIte, Nat.reduceEqDiff, Nat.reduceLT, Nat.reduceLeDiff, Int.reduceLT, Int.reduceLE, Int.reduceEq, Int.reduceAdd, Int.reduceSub, Int.reduceNeg, Int.reduceToNat, Nat.reduceAdd, Nat.reduceMul, Nat.reduceSub, reduceCtorEq, RC, Int.cast_ofNat_Int, hn, g1, g4, g5, g6, g7, g8, g17, g18, g27, g28, wrap_fit]
        refine ⟨n - 1, by omega, i + 1, ov', upd ws (lds ds i).length lv, by omega, rfl, rfl, ?_⟩
        have e2 : tb j (cj ds i j) = tb j (cn ds (i + 1)) := List.map_congr_left fun k hk => by rw [cj_all hE hiN (List.mem_range.1 hk) hl]
        have e3 : grp ds i j = gr ds j (lds ds i).length := by unfold gr; rw [lds_pre ds j i hiN hl]
        have hS := hS.tail
        rw [e2, e3] at hS
        rw [lds_succ, if_pos hl, List.length_append, List.length_singleton, ws_succ, inner_succ]
        refine hS.perm ?_
        rw [← List.append_assoc]
        exact (List.perm_append_singleton _ _).symm
  · have hie : i = N := by omega
    subst hie
    have hw1 := hS.rd 0 rfl
    have hw2 := hS.rd 1 rfl
    repeat first | (with_reducible first | refine Wp.seq ?_ | refine Wp.reg ?_ | refine Wp.block ?_ | refine Wp.skip ?_ | refine Wp.ret ?_ | refine Wp.exit ?_ | refine Wp.label ?_ | refine Wp.condG ?_) | simp (disch := omega) only [↓RP, RQ, TS, TR, ↓reduceIte, Nat.reduceEqDiff, Nat.reduceLT, Nat.reduceLeDiff, Int.reduceLT, Int.reduceLE, Int.reduceEq, Int.reduceAdd, Int.reduceSub, Int.reduceNeg, Int.reduceToNat, Nat.reduceAdd, Nat.reduceMul, Nat.reduceSub, reduceCtorEq, RC, Int.cast_ofNat_Int, hn, g1, g4, g5, g6, g17, g18, hw1.noTuple, hw2.noTuple]
    refine ⟨ds, dv, ov, ws, hT, rfl, ?_⟩
    refine (hS.sub ?_).perm (List.Perm.swap _ _ _)
    exact .cons_cons _ (.cons_cons _ (.cons _ (.cons _ (List.sublist_append_right _ _))))

theorem components_ok (N : Nat) (v : Value) (es : List (Nat × Nat)) (hv : Eg H v es) (h1N : 1 ≤ N) (hN : N ≤ 200) (he : es.length ≤ 1000) (hval : ∀ e ∈ es, e.1 < N ∧ e.2 < N) :
    Fn Try.prog 32 [.agg #[I N, v]] H fun r H' => ∃ (ds : Nat → List Int) (ov : Value) (ws : Nat → Value), IsT es N ds ∧ r = .tuple #[ov, I 0] ∧
      St Try.prog H H' (⟨ov, 1, (List.range (lds ds N).length).map ws⟩ :: inner (lds ds N).length ws (gr ds N)) := by
  refine Fn.of_wp (fn := Try.f32) rfl rfl (by kernel_rfl) fun l hl => ?_
  have hn : l.length = 18 := by rw [hl]; rfl
  have g0 : get l 0 = .agg #[I N, v] := by rw [hl]; rfl
  clear hl
  repeat first | (with_reducible first | refine Wp.seq ?_ | refine Wp.reg ?_ | refine Wp.block ?_ | refine Wp.skip ?_ | refine Wp.ret ?_ | refine Wp.exit ?_ | refine Wp.label ?_ | refine Wp.condG ?_) | simp (disch := omega) only [↓RP, RQ, TS, TR, ↓reduceIte, Nat.reduceEqDiff, Nat.reduceLT, Nat.reduceLeDiff, Int.reduceLT, Int.reduceLE, Int.reduceEq, Int.reduceAdd, Int.reduceSub, Int.reduceNeg, Int.reduceToNat, Nat.reduceAdd, Nat.reduceMul, Nat.reduceSub, reduceCtorEq, RC, Int.cast_ofNat_Int, hn, g0]
  refine (St.refl _ H).eNew 2 [I N, v] rfl rfl (by simp [hv.one]; rfl) tS27 fun A H1 hS => ?_
  repeat first | (with_reducible first | refine Wp.seq ?_ | refine Wp.reg ?_ | refine Wp.block ?_ | refine Wp.skip ?_ | refine Wp.ret ?_ | refine Wp.exit ?_ | refine Wp.label ?_ | refine Wp.condG ?_) | simp (disch := omega) only [↓RP, RQ, TS, TR, ↓reduceIte, Nat.reduceEqDiff, Nat.reduceLT, Nat.reduceLeDiff, Int.reduceLT, Int.reduceLE, Int.reduceEq, Int.reduceAdd, Int.reduceSub, Int.reduceNeg, Int.reduceToNat, Nat.reduceAdd, Nat.reduceMul, Nat.reduceSub, reduceCtorEq, RC, Int.cast_ofNat_Int, hn, g0, hS.ldA 0 rfl]
  refine callFW_of (check_ok N v es (hS.base hv) hN he hval) ?_
  rintro r H2 ⟨rfl, hS2⟩
  have hS := hS.trans hS2
  simp only [List.nil_append, List.cons_append, List.append_nil, List.set_cons_zero, List.set_cons_succ, setMany_cons, setMany_nil, Nat.zero_add, Nat.mul_one, Nat.add_zero] at hS
  repeat first | (with_reducible first | refine Wp.seq ?_ | refine Wp.reg ?_ | refine Wp.block ?_ | refine Wp.skip ?_ | refine Wp.ret ?_ | refine Wp.exit ?_ | refine Wp.label ?_ | refine Wp.condG ?_) | simp (disch := omega) only [↓RP, RQ, TS, TR, ↓reduceIte, Nat.reduceEqDiff, Nat.reduceLT, Nat.reduceLeDiff, Int.reduceLT, Int.reduceLE, Int.reduceEq, Int.reduceAdd, Int.reduceSub, Int.reduceNeg, Int.reduceToNat, Nat.reduceAdd, Nat.reduceMul, Nat.reduceSub, reduceCtorEq, RC, Int.cast_ofNat_Int, hn, g0, hS.ldA 0 rfl]
  refine callFW_of (members_ok N v es (hS.base hv) h1N hN he hval) ?_
  rintro r H3 ⟨ds, dv, ov, ws, hds, rfl, hS2⟩
  have hS := hS.trans hS2
  simp only [List.nil_append, List.cons_append, List.append_nil, List.set_cons_zero, List.set_cons_succ, setMany_cons, setMany_nil, Nat.zero_add, Nat.mul_one, Nat.add_zero] at hS
  have hw := hS.rd 2 rfl
  repeat first | (with_reducible first | refine Wp.seq ?_ | refine Wp.reg ?_ | refine Wp.block ?_ | refine Wp.skip ?_ | refine Wp.ret ?_ | refine Wp.exit ?_ | refine Wp.label ?_ | refine Wp.condG ?_) | simp (disch := omega) only [↓RP, RQ, TS, TR, ↓reduceIte, Nat.reduceEqDiff, Nat.reduceLT, Nat.reduceLeDiff, Int.reduceLT, Int.reduceLE, Int.reduceEq, Int.reduceAdd, Int.reduceSub, Int.reduceNeg, Int.reduceToNat, Nat.reduceAdd, Nat.reduceMul, Nat.reduceSub, reduceCtorEq, RC, Int.cast_ofNat_Int, hn, g0, hw.noTuple]
  exact ⟨ds, ov, ws, hds, rfl, hS.sub (.cons _ (.cons _ (.refl _)))⟩
end Go.Ds
/-
  Ds: from the model's world to a heap of ours, and back.
-/
namespace Go.Ds
open Go.RowKit
section
variable {P : Program} {H : Heap}

theorem CallOk.calls {ρ : Rho} {w : World} {f : FuncId} {args : List Value} {v : Value} {H' : Heap} (h : CallOk P f args H v H') {args' : Array Value} (hr : HRel P ρ H w) (ha : All2 (V ρ) args args'.toList) :
    Calls P f args' w fun e w' => ∃ ρ' v', e = .returned v' ∧ Post P ρ H w ρ' H' w' ∧ V ρ' v v' :=
  (h 0 ρ w args' hr ha).calls fun k => by intro d h; cases h

/-- Nothing of what came in may be written. -/
def Shut (ρ : Rho) (H : Heap) : Prop := ∀ b, ¬ Wr ρ H b

theorem Fn.calls {ρ : Rho} {w : World} {f : FuncId} {args : List Value} {b : Bool} (h : Fn P f args H fun v _ => v = .bool b) {args' : Array Value} (hr : HRel P ρ H w) (hs : Shut ρ H) (ha : All2 (V ρ) args args'.toList) :
    Calls P f args' w fun e w' => e = .returned (.bool b) ∧ Below w.heap.size w w' := by
  obtain ⟨_, v, H1, h1, rfl⟩ := h
  refine (h1.calls hr ha).mono ?_
  rintro e w' ⟨ρ', v', rfl, hp, hv⟩
  refine ⟨?_, hp.os, hp.tape, hp.output, hp.size, fun k hk => (hp.frame k hk (hs k)).1⟩
  rw [hv.eq_of_flat rfl]

theorem HRel.none (w : World) : HRel P (fun _ _ => Option.none) .nil w := .empty w
theorem Shut.none : Shut (fun _ _ => Option.none) .nil := fun b ⟨A, e, p, blk, h, _⟩ => by cases h

/-- One slice that came in, to be read. -/
theorem HRel.input {w : World} {b off len cap size : Nat} {cur : Array Value} {t' : TypeId} {fr : Nat × Nat} (hb : w.heap[b]? = some (.cells cur t' fr)) {ty : TypeId} (hty : sizeP P ty = some size) (hl : len ≤ cap) (hsz : cap = 0 ∨ off + cap * size ≤ cur.size)
    (cs : List Value) (hcs : cs.length = len * size) (hcell : ∀ i, i < cs.length → cur[off + i]? = cs[i]?) (hflat : ∀ c ∈ cs, scalar c = true) :
    ∃ (ρ : Rho) (H : Heap) (v : Value), HRel P ρ H w ∧ Shut ρ H ∧ V ρ v (.slice (some ⟨b, off, Option.none⟩) len cap) ∧ RdAt H v size cs := by
  let d : Int := if cap = 0 then 0 else off
  let p : Place := ⟨b, d, cur.size, size⟩
  have hg : hget (Heap.nil.cons (.cells cs ty false 0 0)) 0 = some (.cells cs ty false 0 0) := hget_cons_new Heap.nil _
  have hlen1 : (Heap.nil.cons (.cells cs ty false 0 0)).length = 1 := by rw [cons_eq]; rfl
  have hA : ∀ A blk, hget (Heap.nil.cons (.cells cs ty false 0 0)) A = some blk → A = 0 ∧ blk = .cells cs ty false 0 0 := by
    intro A blk h
    have : A < 1 := by rw [← hlen1]; exact hget_lt h
    obtain rfl : A = 0 := by omega
    rw [hg] at h
    exact ⟨rfl, (Option.some.inj h).symm⟩
  refine ⟨fun A e => if A = 0 ∧ e = cs.length then some p else Option.none, Heap.nil.cons (.cells cs ty false 0 0), .slice (some ⟨0, 0, some cs.length⟩) len size, ?_, ?_, ?_, ?_⟩
  · have hρ : ∀ A e q, (if A = 0 ∧ e = cs.length then some p else Option.none) = some q → A = 0 ∧ e = cs.length ∧ q = p := by
      intro A e q h
      split at h
      · rename_i hh; exact ⟨hh.1, hh.2, (Option.some.inj h).symm⟩
      · cases h
    refine ⟨?_, ?_, ?_, ?_, ?_, ?_, ?_⟩
    · intro A e q h
      obtain ⟨rfl, rfl, rfl⟩ := hρ _ _ _ h
      exact ⟨by rw [hlen1]; omega, blk_lt hb⟩
    · intro A cs' ty' rw' lo ver h
      obtain ⟨rfl, he⟩ := hA _ _ h
      cases he
      refine ⟨⟨p, by simp⟩, ?_⟩
      intro e q hq
      obtain ⟨_, rfl, rfl⟩ := hρ _ _ _ hq
      refine ⟨Nat.le_refl _, hty, ?_, cur, t', fr, hb, rfl, (fun h => by cases h), ?_⟩
      · show ((cs.length : Nat) : Int) + d ≤ cur.size
        rcases hsz with h0 | h0
        · have : len = 0 := by omega
          subst this
          simp only [d, if_pos h0]
          rw [hcs]; simp
        · simp only [d]
          split
          · rename_i hc
            have : len = 0 := by omega
            subst this
            rw [hcs]; simp
          · have : len * size ≤ cap * size := Nat.mul_le_mul_right _ hl
            omega
      · intro _ i c hi h0 hc
        have hcap : cap ≠ 0 := fun hc0 => by
          have : len = 0 := by omega
          subst this
          simp at hcs
          simp [hcs] at hi
        have hat : p.at i = off + i := by
          simp only [Place.at, p, d, if_neg hcap]
          omega
        refine ⟨c, by rw [hat, hcell i hi, hc], .of_scalar (hflat c (List.mem_of_getElem? hc))⟩
    · intro A es ck ver h
      have := (hA _ _ h).2; cases this
    · intro A r h
      have := (hA _ _ h).2; cases this
    · intro A e q blk h hblk
      rw [(hA _ _ hblk).2]; exact .inl rfl
    · intro A e q A2 e2 q2 blk h h2 _ hblk hw
      rw [(hA _ _ hblk).2] at hw; cases hw
    · intro A h
      rw [hlen1] at h
      obtain rfl : A = 0 := by omega
      rw [hg]; rfl
  · rintro b' ⟨A, e, q, blk, h, _, hblk, hw⟩
    rw [(hA _ _ hblk).2] at hw; cases hw
  · refine .v1 (.c1 (.c0 ?_))
    have h1 : (fun A e => if A = 0 ∧ e = cs.length then some p else Option.none : Rho) 0 cs.length = some p := by simp
    refine C0.slice (p := p) h1 ?_ ?_ hl ?_
    · show (0 : Int) ≤ ((0 : Nat) : Int) + d
      simp only [d]; split <;> omega
    · show 0 + len * size ≤ cs.length
      omega
    · rcases hsz with h0 | h0
      · exact .inr ⟨by omega, h0⟩
      · by_cases hc : cap = 0
        · exact .inr ⟨by omega, hc⟩
        · left
          have hat : p.at 0 = off := by simp only [Place.at, p, d, if_neg hc]; omega
          rw [hat]
          exact ⟨rfl, h0⟩
  · refine .inr ⟨0, 0, cs.length, cs, ty, false, 0, 0, len, hg, Nat.zero_le _, Nat.le_refl _, by omega, by simp, hcs, rfl⟩
end
end Go.Ds
/-
  slices.SortFunc at edges, out of the library's own contract.
-/
namespace Go.Proofs
open Go.Shelf Go.RowKit Go.Lib Go.Sort
def Try.sortE_ren : Go.Shelf.Ren := ⟨fun | 6 => 52 | 15 => 58 | 14 => 57 | 28 => 69 | 29 => 70 | 20 => 61 | 21 => 62 | 22 => 63 | 23 => 64 | 24 => 65 | 25 => 66 | 26 => 67 | 27 => 68 | 46 => 71 | 47 => 72 | 48 => 73 | 49 => 74 | 50 => 75 | 57 => 76 | n => n, fun | 22 => 25 | 24 => 48 | 25 => 82 | 3 => 3 | 39 => 85 | 0 => 0 | 53 => 90 | 55 => 93 | 4 => 4 | 46 => 98 | 45 => 97 | 50 => 102 | 5 => 5 | 9 => 9 | 66 => 106 | 70 => 110 | 76 => 112 | 77 => 113 | n => n, fun | n => n⟩
theorem Try.sortE : Go.Proofs.SlLaysF0.n6 Try.prog Try.sortE_ren := {
  mixed := by kernel_rfl
  f6 := ⟨Try.f52.name, by decide, Try.func52.trans (congrArg some (by kernel_rfl))⟩
  f14 := ⟨Try.f57.name, by decide, Try.func57.trans (congrArg some (by kernel_rfl))⟩
  f15 := Try.func58.trans (congrArg some (by kernel_rfl))
  f20 := ⟨Try.f61.name, by decide, Try.func61.trans (congrArg some (by kernel_rfl))⟩
  f21 := ⟨Try.f62.name, by decide, Try.func62.trans (congrArg some (by kernel_rfl))⟩
  f22 := ⟨Try.f63.name, by decide, Try.func63.trans (congrArg some (by kernel_rfl))⟩
  f23 := ⟨Try.f64.name, by decide, Try.func64.trans (congrArg some (by kernel_rfl))⟩
  f24 := ⟨Try.f65.name, by decide, Try.func65.trans (congrArg some (by kernel_rfl))⟩
  f25 := ⟨Try.f66.name, by decide, Try.func66.trans (congrArg some (by kernel_rfl))⟩
  f26 := ⟨Try.f67.name, by decide, Try.func67.trans (congrArg some (by kernel_rfl))⟩
  f27 := ⟨Try.f68.name, by decide, Try.func68.trans (congrArg some (by kernel_rfl))⟩
  f28 := Try.func69.trans (congrArg some (by kernel_rfl))
  f29 := Try.func70.trans (congrArg some (by kernel_rfl))
  f46 := ⟨Try.f71.name, by decide, Try.func71.trans (congrArg some (by kernel_rfl))⟩
  f47 := Try.func72.trans (congrArg some (by kernel_rfl))
  f48 := Try.func73.trans (congrArg some (by kernel_rfl))
  f49 := ⟨Try.f74.name, by decide, Try.func74.trans (congrArg some (by kernel_rfl))⟩
  f50 := ⟨Try.f75.name, by decide, Try.func75.trans (congrArg some (by kernel_rfl))⟩
  f57 := ⟨Try.f76.name, by decide, Try.func76.trans (congrArg some (by kernel_rfl))⟩
  t0 := Try.underlying0
  a0 := Try.isAgg0
  z0 := Try.sizeOf0
  v0 := Try.zeroValue0
  t3 := Try.underlying3
  a3 := Try.isAgg3
  z3 := Try.sizeOf3
  v3 := Try.zeroValue3
  t4 := Try.underlying4
  a4 := Try.isAgg4
  z4 := Try.sizeOf4
  v4 := Try.zeroValue4
  t5 := Try.underlying5
  a5 := Try.isAgg5
  z5 := Try.sizeOf5
  v5 := Try.zeroValue5
  t9 := Try.underlying9
  a9 := Try.isAgg9
  z9 := Try.sizeOf9
  v9 := Try.zeroValue9
  t22 := Try.underlying25
  a22 := Try.isAgg25
  z22 := Try.sizeOf25
  v22 := Try.zeroValue25
  t25 := Try.underlying82
  a25 := Try.isAgg82
  z25 := Try.sizeOf82
  v25 := Try.zeroValue82
  t39 := Try.underlying85
  a39 := Try.isAgg85
  z39 := Try.sizeOf85
  v39 := Try.zeroValue85
  t45 := Try.underlying97
  a45 := Try.isAgg97
  z45 := Try.sizeOf97
  v45 := Try.zeroValue97
  t46 := Try.underlying98
  a46 := Try.isAgg98
  z46 := Try.sizeOf98
  v46 := Try.zeroValue98
  t50 := Try.underlying102
  a50 := Try.isAgg102
  z50 := Try.sizeOf102
  v50 := Try.zeroValue102
  t53 := Try.underlying90
  a53 := Try.isAgg90
  z53 := Try.sizeOf90
  v53 := Try.zeroValue90
  t55 := Try.underlying93
  a55 := Try.isAgg93
  z55 := Try.sizeOf93
  v55 := Try.zeroValue93
  t66 := Try.underlying106
  a66 := Try.isAgg106
  z66 := Try.sizeOf106
  v66 := Try.zeroValue106
  t70 := Try.underlying110
  a70 := Try.isAgg110
  z70 := Try.sizeOf110
  v70 := Try.zeroValue110
  t76 := Try.underlying112
  a76 := Try.isAgg112
  z76 := Try.sizeOf112
  v76 := Try.zeroValue112
  t77 := Try.underlying113
  a77 := Try.isAgg113
  z77 := Try.sizeOf113
  v77 := Try.zeroValue113 }

abbrev _root_.Go.Ds.Ed := Fin 256 × Fin 256
/-- An edge's two cells. -/
def Try.encE (x : Go.Ds.Ed) : List Value := [.int .i64 x.1.val, .int .i64 x.2.val]
def Try.cfE (x y : Go.Ds.Ed) : Int := if (x.1.val : Int) ≠ y.1.val then (x.1.val : Int) - y.1.val else (x.2.val : Int) - y.2.val

set_option maxHeartbeats 1000000 in
theorem Try.closure53 (x y : Go.Ds.Ed) (W : World) : Calls Try.prog 53 #[.agg #[.int .i64 x.1.val, .int .i64 x.2.val], .agg #[.int .i64 y.1.val, .int .i64 y.2.val]] W fun e w' => e = .returned (.int .i64 (Try.cfE x y)) ∧ ∃ q os', w' = grow (W.drewN q) os' := by
  unfold Try.cfE
  by_cases h : (x.1.val : Int) = y.1.val
  · rw [if_neg (by simpa using h)]
    go_enter Try.func53, Try.ntmps53
    go_wp2
    go_ret
    exact ⟨rfl, 0, _, by rw [alloc_eq_grow, alloc_eq_grow, grow_grow]; rfl⟩
  · rw [if_pos h]
    go_enter Try.func53, Try.ntmps53
    go_wp2
    go_ret
    exact ⟨rfl, 0, _, by rw [alloc_eq_grow, alloc_eq_grow, grow_grow]; rfl⟩

theorem Try.cmpLays53 (blk off size : Nat) (w : World) : CmpLays Try.prog 53 #[] Try.encE 2 Try.cfE blk off size w :=
  fun _ _ _ _ x y => Try.closure53 x y _

theorem Try.ltE (x y : Go.Ds.Ed) : ltOf Try.cfE x y = decide (x.1.val < y.1.val ∨ (x.1.val = y.1.val ∧ x.2.val < y.2.val)) := by
  unfold ltOf Try.cfE
  congr 1
  apply propext
  split <;> omega

theorem Try.swoE : SWO (ltOf Try.cfE) where
  irrefl x := by rw [Try.ltE]; simp
  trans x y z h1 h2 := by rw [Try.ltE] at *; simp at *; omega
  ntrans x y z h1 h2 := by rw [Try.ltE] at *; simp at *; omega

theorem Try.totE (x y : Go.Ds.Ed) (h1 : ltOf Try.cfE x y = false) (h2 : ltOf Try.cfE y x = false) : x = y := by
  rw [Try.ltE] at *
  simp at h1 h2
  apply Prod.ext
  · apply Fin.ext; omega
  · apply Fin.ext; omega

theorem Try.sortsE (blk off cap : Nat) (d : Array Go.Ds.Ed) (w : World) (hH : HoldsK Try.encE 2 w blk off d) (hblk : blk < w.heap.size) (hsz : d.size < 4611686018427387904) :
    Calls Try.prog 52 #[.slice (some ⟨blk, off, none⟩) d.size cap, .func (.func 53) #[] #[]] w fun e w' => e = .returned (.tuple #[]) ∧ ∃ n os, w' = sortWorldK Try.encE 2 w blk off n (d.toList.mergeSort fun x y => !(ltOf Try.cfE) y x).toArray os := by
  have eg : ∀ args w, (callFunc 53 args).run Try.prog w = .ok (.enter 53 args) w := enters_of Try.func53 (by kernel_rfl) rfl
  exact AnyQ.slices_SortFunc_total Try.sortE 2 Try.isAgg48 Try.sizeOf48 Try.encE (fun _ => rfl) (fun x v hv => by simp [Try.encE] at hv; rcases hv with rfl | rfl <;> rfl) Try.cfE Try.swoE 53 #[] blk off cap d w eg (Try.cmpLays53 blk off d.size w) hH hblk hsz Try.totE

theorem Try.sortsNone (p : Option Addr) (cap : Nat) (fv : Value) (w : World) : Calls Try.prog 52 #[.slice p 0 cap, fv] w fun e w' => e = .returned (.tuple #[]) ∧ w' = w :=
  AnyF.slices_SortFunc_none { Try.sortE with } p cap fv w
end Go.Proofs
namespace Go.Ds
open Go.Proofs
section
variable {P : Program} {H : Heap} {ρ ρ' : Rho} {H' : Heap} {w w1 w2 : World}

theorem Post.like (h : Post P ρ H w ρ' H' w1) (hsz : w1.heap.size ≤ w2.heap.size) (hb : ∀ b, b < w1.heap.size → w2.heap[b]? = w1.heap[b]?) (h1 : w2.os = w1.os) (h2 : w2.tape = w1.tape) (h3 : w2.output = w1.output) : Post P ρ H w ρ' H' w2 where
  le := h.le
  rel := h.rel.other hsz fun A e p hp => hb _ (h.rel.dom _ _ _ hp).2
  len := h.len
  size := Nat.le_trans h.size hsz
  os := h1.trans h.os
  tape := h2.trans h.tape
  output := h3.trans h.output
  frame b hlt hw := by
    obtain ⟨e, hw'⟩ := h.frame b hlt hw
    exact ⟨(hb b (Nat.lt_of_lt_of_le hlt h.size)).trans e, hw'⟩
  loops b r hr := by
    obtain ⟨r', hr'⟩ := h.loops b r hr
    exact ⟨r', by rw [hb b (blk_lt hr')]; exact hr'⟩
  img := h.img

def toE (e : Nat × Nat) : Ed := (Fin.ofNat 256 e.1, Fin.ofNat 256 e.2)
def ofE (x : Ed) : Nat × Nat := (x.1.val, x.2.val)
theorem ofE_toE {e : Nat × Nat} (h : e.1 < 256 ∧ e.2 < 256) : ofE (toE e) = e := by
  unfold ofE toE
  apply Prod.ext
  · exact Nat.mod_eq_of_lt h.1
  · exact Nat.mod_eq_of_lt h.2
theorem map_ofE {es : List (Nat × Nat)} (h : ∀ e ∈ es, e.1 < 256 ∧ e.2 < 256) : (es.map toE).map ofE = es := by
  rw [List.map_map]
  conv => rhs; rw [← List.map_id es]
  exact List.map_congr_left fun e he => ofE_toE (h e he)

theorem flatE : ∀ (l : List Ed) (j : Nat), j < l.length * 2 → (Try.encE (l.toArray[j / 2]!))[j % 2]! = (eg (l.map ofE)).getD j undef := by
  intro l
  induction l with
  | nil => intro j hj; simp at hj
  | cons x l ih =>
    intro j hj
    have e : eg ((x :: l).map ofE) = I x.1.val :: I x.2.val :: eg (l.map ofE) := rfl
    rw [e]
    match j with
    | 0 => rfl
    | 1 => rfl
    | j + 2 =>
      have h1 : (j + 2) / 2 = j / 2 + 1 := by omega
      have h2 : (j + 2) % 2 = j % 2 := by omega
      have := ih j (by simp at hj; omega)
      rw [h1, h2]
      simp only [List.getD_cons_succ]
      rw [← this]
      congr 2
      simp only [List.getElem!_toArray]
      simp
end

def lexLe (a b : Nat × Nat) : Prop := a.1 < b.1 ∨ (a.1 = b.1 ∧ a.2 ≤ b.2)
/-- Edges in order. -/
def srt (es : List (Nat × Nat)) : List (Nat × Nat) := ((es.map toE).mergeSort fun x y => !(ltOf Try.cfE) y x).map ofE
theorem srt_perm {es : List (Nat × Nat)} (h : ∀ e ∈ es, e.1 < 256 ∧ e.2 < 256) : (srt es).Perm es := by
  unfold srt
  have := (List.mergeSort_perm (es.map toE) fun x y => !(ltOf Try.cfE) y x).map ofE
  rwa [map_ofE h] at this
theorem srt_sorted (es : List (Nat × Nat)) : (srt es).Pairwise lexLe := by
  unfold srt
  rw [List.pairwise_map]
  refine (List.pairwise_mergeSort (le := fun x y => !(ltOf Try.cfE) y x) ?_ ?_ _).imp ?_
  · intro a b c h1 h2
    rw [Try.ltE] at *
    simp at *
    omega
  · intro a b
    rw [Try.ltE, Try.ltE]
    simp
    omega
  · intro a b h
    rw [Try.ltE] at h
    simp at h
    unfold lexLe ofE
    simp only
    omega

theorem fe_wide : fe none = Fence.wide := rfl
theorem V.func0 {ρ : Rho} {k : FuncId} {v' : Value} (h : V ρ (.func (.func k) #[] #[]) v') : v' = .func (.func k) #[] #[] := by
  cases h with
  | v1 h => cases h with
    | c1 h => cases h with
      | c0 h => cases h with
        | flat h => rfl
      | fn ha hb =>
        rename_i a' b'
        have e1 : a' = #[] := by
          obtain ⟨l⟩ := a'
          cases l with
          | nil => rfl
          | cons => exact ha.elim
        have e2 : b' = #[] := by
          obtain ⟨l⟩ := b'
          cases l with
          | nil => rfl
          | cons => exact hb.elim
        rw [e1, e2]

theorem eg_get (es : List (Nat × Nat)) : scalars (eg es) = true := by
  unfold scalars
  rw [List.all_eq_true]
  intro c hc
  obtain ⟨x, _, hx⟩ := List.mem_flatMap.1 hc
  simp only [List.mem_cons, List.not_mem_nil, or_false] at hx
  rcases hx with rfl | rfl <;> rfl

set_option maxRecDepth 10000 in
theorem sortRow {H : Heap} {A i lo ver n : Nat} {ty : TypeId} {pre : List Value} {es : List (Nat × Nat)} (hg : hget H A = some (.cells (pre ++ eg es) ty true lo ver)) (hlo : lo ≤ i + (eg es).length) (hpre : pre.length = i)
    (hn : (eg es).length = n * 2) (hty : sizeP Try.prog ty = some 2) (hb : ∀ e ∈ es, e.1 < 256 ∧ e.2 < 256) (hl : es.length < 1000000) (h0 : es ≠ []) :
    CallOk Try.prog 52 [.slice (some ⟨A, i, some (i + (eg es).length)⟩) n 2, .func (.func 53) #[] #[]] H (.tuple #[]) (hset H A (.cells (setMany (pre ++ eg es) i (eg (srt es))) ty true (pre ++ eg es).length (ver + 1))) := by
  intro k ρ w args' hr ha
  obtain ⟨l⟩ := args'
  match l, ha with
  | [x, f], ⟨hx, hf, _⟩ =>
    obtain rfl := V.func0 hf
    have hlen : (pre ++ eg es).length = i + (eg es).length := by rw [List.length_append, hpre]
    obtain ⟨p, c', a, hp, h0', hin, hnc, hac, hpk, rfl⟩ := hx.slice_inv
    rw [eg_length] at hn
    have hne : 0 < es.length := List.length_pos_iff.2 h0
    have hnn : n = es.length := by omega
    subst hnn
    have ha' : a = ⟨p.b, p.at i, none⟩ := by
      rcases hac with h | h
      · exact h.1
      · omega
    subst ha'
    have hp2 : ρ A (pre ++ eg es).length = some p := by rw [hlen]; exact hp
    obtain ⟨_, _, hfit, cur, ty', fr, hw, hsz, hfr, hcell⟩ := (hr.cells _ _ _ _ _ _ hg).2 _ _ hp2
    obtain rfl := hfr rfl
    let d : Array Ed := (es.map toE).toArray
    have hds : d.size = es.length := by simp [d]
    have hfl := fun j hj => flatE (es.map toE) j (by simpa using hj)
    rw [map_ofE hb] at hfl
    have hH : Go.Sort.HoldsK Try.encE 2 w p.b (p.at i) d := by
      intro j hj
      rw [Go.Sort.size_flatK, hds] at hj
      constructor
      · have hc : (pre ++ eg es)[i + j]? = some ((eg es).getD j undef) := by
          rw [List.getElem?_append_right (by omega), hpre, Nat.add_sub_cancel_left, List.getD_eq_getElem?_getD, List.getElem?_eq_getElem (by rw [eg_length]; omega)]
          rfl
        obtain ⟨c2, hc2, hrel⟩ := hcell (by rw [hlen]; exact hlo) (i + j) _ (by rw [hlen, eg_length]; omega) (by omega) hc
        have hsc : scalar ((eg es).getD j undef) = true := by
          have := eg_get es
          unfold scalars at this
          rw [List.all_eq_true] at this
          apply this
          rw [List.getD_eq_getElem?_getD, List.getElem?_eq_getElem (by rw [eg_length]; omega)]
          exact List.getElem_mem _
        have := hrel.eq_of_scalar hsc
        subst this
        have hat : p.at (i + j) = p.at i + j := by unfold Place.at; omega
        rw [hat] at hc2
        simp only [World.cell?, hw]
        rw [Go.Sort.get_flatK _ _ _ _ (by rw [hds]; exact hj), hfl j hj]
        exact hc2
      · simp only [World.frozen?, hw]
        simp
    have hcon := Try.sortsE p.b (p.at i) c' d w hH (hr.dom _ _ _ hp).2 (by rw [hds]; omega)
    rw [hds] at hcon
    obtain ⟨w1, hrun, hpost⟩ := write_ok hr (ver + 1) hg hp2 h0' (.of_scalars (eg_get (srt es))) (by rw [hlen, eg_length, eg_length, (srt_perm hb).length_eq]; omega) (by rw [hlen]; exact hlo)
    have hcsz : p.at i + (eg (srt es)).length ≤ cur.size := by
      rw [eg_length, (srt_perm hb).length_eq, hsz]
      unfold Place.at
      rw [hlen, eg_length] at hfit
      omega
    have hst := run_storeCells_at (P := Try.prog) p.b (p.at i) ty' (eg (srt es)) 0 cur w hw (by simpa using hcsz) (All2.of_scalars (ρ := ρ) (eg_get (srt es))).oneCells
    rw [hst] at hrun
    injection hrun with _ hw1
    subst hw1
    refine callsIn_wide.2 (hcon.mono ?_)
    rintro e w' ⟨rfl, m, os, rfl⟩
    refine ⟨ρ, _, rfl, ?_, .tuple trivial⟩
    have hsl : (srt es).length = es.length := (srt_perm hb).length_eq
    have hml : ((d.toList.mergeSort fun x y => !(ltOf Try.cfE) y x)).length = es.length := by simp [d]
    have hfs : ∀ j, j < es.length * 2 → (Go.Sort.flatK Try.encE 2 (d.toList.mergeSort fun x y => !(ltOf Try.cfE) y x).toArray)[j]! = (eg (srt es)).getD j undef := fun j hj => by
      rw [Go.Sort.get_flatK _ _ _ _ (by simpa [d] using hj)]
      exact flatE (d.toList.mergeSort fun x y => !(ltOf Try.cfE) y x) j (by rw [hml]; exact hj)
    have hFs : (Go.Sort.flatK Try.encE 2 (d.toList.mergeSort fun x y => !(ltOf Try.cfE) y x).toArray).size = es.length * 2 := by simp [d]
    unfold sortWorldK Go.Sort.putRowK
    generalize Go.Sort.flatK Try.encE 2 (d.toList.mergeSort fun x y => !(ltOf Try.cfE) y x).toArray = F at hfs hFs ⊢
    have hlt := blk_lt hw
    have hh : ∀ b, b < w.heap.size → (Go.Sort.grow (Go.Sort.putRow id (Go.Sort.ahead w m) p.b (p.at i) F) os).heap[b]? = (Go.Sort.putRow id (Go.Sort.ahead w m) p.b (p.at i) F).heap[b]? := fun b hb => by
      have : b < (Go.Sort.putRow id (Go.Sort.ahead w m) p.b (p.at i) F).heap.size := by simpa [Go.Sort.putRow, Go.Sort.mapBlock, Go.Sort.ahead] using hb
      unfold Go.Sort.grow
      exact Array.getElem?_append_left this
    refine hpost.like ?_ ?_ rfl rfl rfl
    · simp [Go.Sort.grow, Go.Sort.putRow, Go.Sort.mapBlock, Go.Sort.ahead]
    · intro b hbs
      rw [setRow_size] at hbs
      rw [hh b hbs]
      by_cases e : b = p.b
      · subst e
        rw [setRow_heap w p.b cur _ ty' (0, 0) hw]
        have e2 : (Go.Sort.putRow id (Go.Sort.ahead w m) p.b (p.at i) F).heap[p.b]? = some (.cells (Go.Sort.putCells id (p.at i) F cur) ty' (0, 0)) := by
          simp [Go.Sort.putRow, Go.Sort.mapBlock, Go.Sort.ahead, Array.getElem?_modify, hw, Go.Sort.onCells]
        rw [e2]
        congr 2
        apply Array.ext_getElem?
        intro j
        have hseg := seg_get cur.toList (eg (srt es)) (p.at i) j (by simpa using hcsz)
        have e3 : ((List.take (p.at i + 0) cur.toList ++ eg (srt es) ++ List.drop (p.at i + 0 + (eg (srt es)).length) cur.toList).toArray)[j]? = (List.take (p.at i) cur.toList ++ eg (srt es) ++ List.drop (p.at i + (eg (srt es)).length) cur.toList)[j]? := by simp
        rw [e3, hseg]
        simp only [Go.Sort.putCells, Array.getElem?_mapIdx, Array.getElem?_toList]
        rw [eg_length, hsl] at hcsz ⊢
        by_cases h1 : p.at i ≤ j ∧ j < p.at i + es.length * 2
        · rw [if_pos h1]
          have hjc : j < cur.size := by omega
          rw [Array.getElem?_eq_getElem hjc]
          simp only [Option.map_some]
          rw [if_pos (by rw [hFs]; exact h1), hfs _ (by omega), List.getD_eq_getElem?_getD, List.getElem?_eq_getElem (by rw [eg_length, hsl]; omega)]
          rfl
        · rw [if_neg h1]
          cases hc : cur[j]? with
          | none => simp
          | some c =>
            simp only [Option.map_some]
            rw [if_neg (by rw [hFs]; exact h1)]
      · rw [setRow_other _ _ _ _ e]
        simp [Go.Sort.putRow, Go.Sort.mapBlock, Go.Sort.ahead, Array.getElem?_modify, Ne.symm e]

/-- Edges of ours are sorted. -/
theorem sortE_ok {H : Heap} {H0 : Base} {os : List Ob} (hS : St Try.prog H0 H os) (i : Nat) {v : Value} {es : List (Nat × Nat)} (ho : os[i]? = some ⟨v, 2, eg es⟩) (hb : ∀ e ∈ es, e.1 < 256 ∧ e.2 < 256) (hl : es.length < 1000000) {K : Value → Heap → Prop}
    (h : ∀ H1, St Try.prog H0 H1 (os.set i ⟨v, 2, eg (srt es)⟩) → K (.tuple #[]) H1) : callFW Try.prog 52 [v, .func (.func 53) #[] #[]] H K := by
  have hent : Entered Try.prog 52 := ⟨Try.f52, rfl, rfl, by kernel_rfl⟩
  by_cases h0 : es = []
  · subst h0
    refine ⟨.tuple #[], H, hent, ?_, h H ?_⟩
    · intro k ρ w args' hr ha
      obtain ⟨l⟩ := args'
      match l, ha with
      | [x, f], ⟨hx, hf, _⟩ =>
        obtain rfl := V.func0 hf
        have hown := hS.own _ (List.mem_of_getElem? ho)
        unfold OwnAt at hown
        rw [if_neg (by simp)] at hown
        have hx0 : ∃ p cap, x = .slice p 0 cap := by
          rcases hown with ⟨h2, _⟩ | ⟨A, j, ty, lo', ver, pre, m, h2, h3, h4, h5, h6, h7⟩
          · simp only at h2
            subst h2
            rcases hx.slice_any with ⟨_, _, _, rfl⟩ | ⟨A, j, e, p, c', a, hh, _⟩
            · exact ⟨_, _, rfl⟩
            · cases hh
          · simp only at h5 h6
            subst h6
            have hm : m = 0 := by simp at h5; omega
            subst hm
            obtain ⟨p, c', a, _, _, _, _, _, _, rfl⟩ := hx.slice_inv
            exact ⟨_, _, rfl⟩
        obtain ⟨p, cap, rfl⟩ := hx0
        refine callsIn_wide.2 ((Try.sortsNone p cap _ w).mono ?_)
        rintro e w' ⟨rfl, rfl⟩
        exact ⟨ρ, _, rfl, .refl hr, .tuple trivial⟩
    · obtain ⟨hi, hoi⟩ := List.getElem?_eq_some_iff.1 ho
      have e : srt [] = [] := by simp [srt]
      rw [e, ← hoi, List.set_getElem_self]
      exact hS
  · have hown := hS.own _ (List.mem_of_getElem? ho)
    unfold OwnAt at hown
    rw [if_neg (by simp)] at hown
    have hne : 0 < es.length := List.length_pos_iff.2 h0
    rcases hown with ⟨_, h3⟩ | ⟨A, j, ty, lo', ver, pre, m, h2, h3, h4, h5, h6, h7⟩
    · simp only at h3
      have := congrArg List.length h3
      rw [eg_length, List.length_nil] at this
      omega
    · simp only at h2 h3 h5 h6
      have hsl : (eg (srt es)).length = (eg es).length := by rw [eg_length, eg_length, (srt_perm hb).length_eq]
      have hcall := sortRow h2 h3 h4 h5 h7 hb hl h0
      rw [← h6] at hcall
      refine ⟨_, _, hent, hcall, h _ (hS.put i ho ?_ ?_ ?_ ?_)⟩
      · unfold OwnAt
        rw [if_neg (by simp)]
        refine .inr ⟨A, j, ty, (pre ++ eg es).length, ver + 1, pre, m, ?_, ?_, h4, ?_, ?_, h7⟩
        · rw [hget_hset_same _ (hget_lt h2)]
          have := setMany_over (eg (srt es)) pre (eg es) (by rw [hsl]; exact Nat.le_refl _)
          rw [h4] at this
          rw [this, hsl, List.drop_length, List.append_nil]
        · simp only [List.length_append, h4, hsl]; exact Nat.le_refl _
        · simp only [hsl]; exact h5
        · simp only [hsl]; exact h6
      · rw [length_hset]; exact Nat.le_refl _
      · intro B' hB hne'
        refine hset_old fun hh => hne' ?_
        simp [blk, h6, hh]
      · intro B' hB
        exact .inl hB
end Go.Ds
/-
  Plain graphs: the reference's way is the program's.
-/
namespace Go.Plain

theorem W_cons {es : List (Nat × Nat)} : ∀ {n a b : Nat}, W es (n + 1) a b ↔ ∃ c, (a, c) ∈ es ∧ W es n c b
  | 0, a, b => by
    constructor
    · rintro ⟨c, hc, h⟩
      have : a = c := hc
      subst this
      exact ⟨b, h, rfl⟩
    · rintro ⟨c, h, hc⟩
      have : c = b := hc
      subst this
      exact ⟨a, rfl, h⟩
  | n + 1, a, b => by
    constructor
    · rintro ⟨c, hc, h⟩
      obtain ⟨c', h1, h2⟩ := W_cons.1 hc
      exact ⟨c', h1, c, h2, h⟩
    · rintro ⟨c, h, c', h1, h2⟩
      exact ⟨c', W_cons.2 ⟨c, h, h1⟩, h2⟩

theorem W_rev {es : List (Nat × Nat)} : ∀ {n a b : Nat}, W (tE es) n a b ↔ W es n b a
  | 0, a, b => by constructor <;> (intro h; exact Eq.symm h)
  | n + 1, a, b => by
    rw [W_cons]
    constructor
    · rintro ⟨c, h1, h2⟩
      exact ⟨c, W_rev.1 h2, mem_tE.1 h1⟩
    · rintro ⟨c, h1, h2⟩
      exact ⟨c, mem_tE.2 h2, W_rev.2 h1⟩

section
variable {es : List (Nat × Nat)} {N t : Nat} {d : List Int} {rows : Nat → List Nat}

theorem IsD.self (hd : IsD (tE es) N t d) (ht : t < N) : d.getD t 0 = 0 := by
  by_cases h : d.getD t 0 < 0
  · exact ((hd.neg t ht h).2 0 rfl).elim
  · have := (hd.pos t ht (by omega)).2 0 rfl
    omega

theorem IsD.zero (hd : IsD (tE es) N t d) {i : Nat} (hi : i < N) (h : d.getD i 0 = 0) : i = t := by
  have := (hd.pos i hi (by omega)).1
  rw [h] at this
  exact Eq.symm this

/-- A way of at least one edge: the table of steps has what the table of distances has. -/
theorem steps_eq (hd : IsD (tE es) N t d) (hr : ∀ i, i < N → IsS es N i (rows i)) (ht : t < N) {i : Nat} (hi : i < N) (hit : i ≠ t) : d.getD i 0 = if (rows i).getD t 0 = 0 then -1 else ((rows i).getD t 0 : Int) := by
  split
  · rename_i h0
    by_cases h : d.getD i 0 < 0
    · exact (hd.neg i hi h).1
    · have h1 := (hd.pos i hi (by omega)).1
      cases hm : (d.getD i 0).toNat with
      | zero => rw [hm] at h1; exact (hit (Eq.symm h1)).elim
      | succ m => rw [hm] at h1; exact ((hr i hi).zero t ht h0 m (W_rev.1 h1)).elim
  · rename_i h0
    have h1 := (hr i hi).pos t ht (by omega)
    by_cases h : d.getD i 0 < 0
    · exact ((hd.neg i hi h).2 _ (W_rev.2 h1.1)).elim
    · have h2 := hd.pos i hi (by omega)
      have h3 := h2.2 _ (W_rev.2 h1.1)
      cases hm : (d.getD i 0).toNat with
      | zero => rw [hm] at h2; exact (hit (Eq.symm h2.1)).elim
      | succ m =>
        rw [hm] at h2
        have h4 := h1.2 m (W_rev.1 h2.1)
        omega

/-- What the reference asks of an edge. -/
theorem ref_mt (hd : IsD (tE es) N t d) (hr : ∀ i, i < N → IsS es N i (rows i)) (hv : ∀ e ∈ es, e.1 < N ∧ e.2 < N) (ht : t < N) {e : Nat × Nat} (he : e ∈ es) {m : Nat} (hm : d.getD e.1 0 = (m + 1 : Nat)) :
    d.getD e.2 0 = (m : Int) ↔ (m = 0 ∧ e.2 = t) ∨ (0 < m ∧ (rows e.2).getD t 0 = m) := by
  have h1 := (hv e he).1
  have h2 := (hv e he).2
  cases m with
  | zero =>
    constructor
    · intro h
      exact .inl ⟨rfl, hd.zero h2 h⟩
    · rintro (⟨_, h⟩ | ⟨h, _⟩)
      · rw [h]; exact hd.self ht
      · omega
  | succ m =>
    have hne : e.2 ≠ t := by
      intro h
      have h3 := (hd.pos e.1 h1 (by omega)).2 1 ⟨t, rfl, mem_tE.2 (by rw [← h]; exact he)⟩
      omega
    have h3 := steps_eq hd hr ht h2 hne
    rw [h3]
    constructor
    · intro h
      right
      refine ⟨by omega, ?_⟩
      split at h <;> omega
    · rintro (⟨h, _⟩ | ⟨_, h⟩)
      · omega
      · rw [if_neg (by omega), h]
end
end Go.Plain
/-
  Contracts: sameEdges. The closure and ways of some edges.
-/
namespace Go.Ds
open Go.Proofs Go.Plain
variable {H : Heap}

theorem hit_iff {N : Nat} {es : List (Nat × Nat)} {ds : Nat → List Int} (hval : ∀ e ∈ es, e.1 < N ∧ e.2 < N) (hds : ∀ i, i < N → IsD es N i (ds i)) (i k : Nat) (hk : k < N) : hit es ds i k es.length = true ↔ ∃ n, W es (n + 1) i k := by
  unfold hit
  rw [List.take_length, List.any_eq_true]
  constructor
  · rintro ⟨e, he, h⟩
    rw [Bool.and_eq_true, decide_eq_true_eq, decide_eq_true_eq] at h
    have := ((hds _ (hval e he).2).pos k hk h.2).1
    exact ⟨_, W_cons.2 ⟨e.2, by rw [← h.1]; exact he, this⟩⟩
  · rintro ⟨n, hw⟩
    obtain ⟨c, hc, hw⟩ := W_cons.1 hw
    refine ⟨_, hc, ?_⟩
    rw [Bool.and_eq_true, decide_eq_true_eq, decide_eq_true_eq]
    refine ⟨rfl, ?_⟩
    apply Classical.byContradiction
    intro hh
    exact ((hds c (hval _ hc).2).neg k hk (by simp only at hh; omega)).2 n hw

theorem hit_steps {N : Nat} {es : List (Nat × Nat)} {ds : Nat → List Int} (hval : ∀ e ∈ es, e.1 < N ∧ e.2 < N) (hds : ∀ i, i < N → IsD es N i (ds i)) (i k : Nat) (hk : k < N) {row : List Nat} (h : IsS es N i row) : hit es ds i k es.length = decide (0 < row.getD k 0) := by
  rw [Bool.eq_iff_iff, hit_iff hval hds i k hk, decide_eq_true_eq]
  constructor
  · rintro ⟨n, hw⟩
    apply Classical.byContradiction
    intro hh
    exact h.zero k hk (by omega) n hw
  · intro h0
    have := (h.pos k hk h0).1
    refine ⟨row.getD k 0 - 1, ?_⟩
    rw [Nat.sub_add_cancel h0]
    exact this
end Go.Ds
/-
  Two structs of two whole numbers, compared.
-/
namespace Go.Ds
open Go.Proofs

theorem pureRun_bind {α β : Type} (P : Program) (f : α → Sem β) (s : Sem α) : pureRun P (s >>= f) = (pureRun P s).bind fun x => pureRun P (f x) := by
  induction s with
  | pure a => rfl
  | program k ih => exact ih P
  | _ => rfl
theorem pureRun_pure {α : Type} (P : Program) (x : α) : pureRun P (pure x) = some x := rfl
theorem eqI3 (d : Nat) (a c : Int) : pureRun Try.prog (Op.equalIn (d + 1) 3 (I a) (I c)) = some (a == c) := by kernel_rfl
noncomputable def flds (P : Program) (t : TypeId) : List Field := match pureRun P (underlying t) with | some (.struct fs) => fs.toList | _ => []
theorem two (l : List Field) (h : l.map (fun f => (f.name != "_", f.type, f.offset)) = [(true, 3, 0), (true, 3, 1)]) : ∃ f g : Field, l = [f, g] ∧ f.name ≠ "_" ∧ g.name ≠ "_" ∧ f.type = 3 ∧ g.type = 3 ∧ f.offset = 0 ∧ g.offset = 1 := by
  rcases l with _ | ⟨f, _ | ⟨g, _ | ⟨x, l⟩⟩⟩
  · simp at h
  · simp at h
  · simp only [List.map_cons, List.map_nil, List.cons.injEq, Prod.mk.injEq, bne_iff_ne, and_true] at h
    obtain ⟨⟨h1, h2, h3⟩, h4, h5, h6⟩ := h
    exact ⟨f, g, rfl, h1, h4, h2, h5, h3, h6⟩
  · simp at h
theorem prt0 (a b : Int) : pureRun Try.prog (part 3 #[I a, I b] 0) = some (I a) := by kernel_rfl
theorem prt1 (a b : Int) : pureRun Try.prog (part 3 #[I a, I b] 1) = some (I b) := by kernel_rfl
theorem eqS (t : TypeId) (hu : pureRun Try.prog (underlying t) = some (.struct (flds Try.prog t).toArray)) (hst : Try.prog.stoodInHeld t = false)
    (hf : (flds Try.prog t).map (fun f => (f.name != "_", f.type, f.offset)) = [(true, 3, 0), (true, 3, 1)]) (d : Nat) (a b c e : Int) : pureRun Try.prog (Op.equalIn (d + 2) t (.agg #[I a, I b]) (.agg #[I c, I e])) = some ((a == c) && (b == e)) := by
  obtain ⟨f, g, hl, h1, h2, h3, h4, h5, h6⟩ := two _ hf
  rw [hl] at hu
  rw [Op.equalIn, pureRun_bind, hu, Option.bind_some]
  have hp : pureRun Try.prog program = some Try.prog := rfl
  simp only [pureRun_bind, hp, Option.bind_some, hst, Bool.false_eq_true, if_false, List.forIn_toArray, List.forIn_cons, List.forIn_nil, h1, h2, h3, h4, h5, h6, prt0, eqI3, ne_eq, not_false_eq_true, if_true]
  cases a == c with
  | false => simp only [Bool.not_false, if_true, pureRun_pure, Option.bind_some, Bool.false_and]
  | true =>
    simp only [Bool.not_true, Bool.false_eq_true, if_false, pureRun_pure, Option.bind_some, pureRun_bind, prt1, eqI3, Bool.true_and]
    cases b == e with
    | false => simp only [Bool.not_false, if_true, pureRun_pure, Option.bind_some]
    | true => simp only [Bool.not_true, Bool.false_eq_true, if_false, pureRun_pure, Option.bind_some]
theorem eqS48 (d : Nat) (a b c e : Int) : pureRun Try.prog (Op.equalIn (d + 2) 48 (.agg #[I a, I b]) (.agg #[I c, I e])) = some ((a == c) && (b == e)) := eqS 48 (by kernel_rfl) (by kernel_rfl) (by kernel_rfl) d a b c e
theorem eqS64 (d : Nat) (a b c e : Int) : pureRun Try.prog (Op.equalIn (d + 2) 64 (.agg #[I a, I b]) (.agg #[I c, I e])) = some ((a == c) && (b == e)) := eqS 64 (by kernel_rfl) (by kernel_rfl) (by kernel_rfl) d a b c e

theorem guardS (op : BinOp) (t : TypeId) (ht : Try.prog.eqGuardType Try.prog.depth t = false) (x y : Operand) (a b c e : Int) : pureRun Try.prog (eqGuard op t x y (.agg #[I a, I b]) (.agg #[I c, I e])) = some () := by
  have hp : pureRun Try.prog program = some Try.prog := rfl
  unfold eqGuard
  cases op <;> simp [pureRun_bind, hp, ht, pureRun_pure]

theorem binD_neqS {l : List Value} {d : Option Tmp} {ty : TypeId} {pos : String} {af : Array Edge} {g : Option (Nat × Bool)} {p q : Tmp} {t t2 : TypeId} {a b c e : Int} {H : Heap} (hx : get l p = .agg #[I a, I b]) (hy : get l q = .agg #[I c, I e])
    (ht : Try.prog.eqGuardType Try.prog.depth t = false) (hq : pureRun Try.prog (Op.equalIn (9998 + 2) t (.agg #[I a, I b]) (.agg #[I c, I e])) = some ((a == c) && (b == e))) :
    plainD Try.prog ⟨d, .binOp .neq t (.tmp p) (.tmp q) t2, ty, pos, af, g⟩ l H = some (.bool (!((a == c) && (b == e))), H) := by
  have hx' : ev l (.tmp p) = .agg #[I a, I b] := hx
  have hy' : ev l (.tmp q) = .agg #[I c, I e] := hy
  have h2 : pureRun Try.prog (execOp (ev l) ⟨d, .binOp .neq t (.tmp p) (.tmp q) t2, ty, pos, af, g⟩) = some (.value (.bool (!((a == c) && (b == e))))) := by
    simp only [execOp]
    rw [hx', hy']
    simp only [pureRun_bind, guardS _ t ht, Option.bind_some]
    have h3 : pureRun Try.prog (binOp .neq t (.agg #[I a, I b]) (.agg #[I c, I e])) = some (.bool (!((a == c) && (b == e)))) := by
      have hmd : Op.maxDepth = 9998 + 2 := by decide
      simp only [binOp, pureRun_bind, Op.equal]
      rw [hmd, hq, Option.bind_some, pureRun_pure]
    rw [h3]
    rfl
  unfold plainD
  rw [h2]
  have h4 : (Op.operands (.binOp .neq t (.tmp p) (.tmp q) t2)).toList.all (fun x => flat (ev l x)) = true := by
    show ([Operand.tmp p, Operand.tmp q]).all (fun x => flat (ev l x)) = true
    simp only [List.all_cons, List.all_nil, hx', hy']
    rfl
  rw [if_pos h4]
  rfl
end Go.Ds
/-
  Contracts: sameEdges.
-/
namespace Go.Ds
open Go.Proofs Go.Plain
variable {H : Heap}

theorem binW_neqS {l : List Value} {K : Value → Heap → Prop} {d : Option Tmp} {ty : TypeId} {pos : String} {af : Array Edge} {g : Option (Nat × Bool)} {p q : Tmp} {t2 : TypeId} {a b c e : Int} (hx : get l p = .agg #[I a, I b]) (hy : get l q = .agg #[I c, I e])
    (h : K (.bool (!((a == c) && (b == e)))) H) : binW Try.prog ⟨d, .binOp .neq 48 (.tmp p) (.tmp q) t2, ty, pos, af, g⟩ .neq l H (.agg #[I a, I b]) (.agg #[I c, I e]) K := by
  have h1 := binD_neqS (l := l) (d := d) (ty := ty) (pos := pos) (af := af) (g := g) (t := 48) (t2 := t2) (H := H) hx hy (by kernel_rfl) (eqS48 9998 a b c e)
  have hx' : ev l (.tmp p) = .agg #[I a, I b] := hx
  have hy' : ev l (.tmp q) = .agg #[I c, I e] := hy
  show bindW (opD Try.prog ⟨d, .binOp .neq 48 (.tmp p) (.tmp q) t2, ty, pos, af, g⟩ l H) K
  have h3 : opD Try.prog ⟨d, .binOp .neq 48 (.tmp p) (.tmp q) t2, ty, pos, af, g⟩ l H = some (.bool (!((a == c) && (b == e))), H) := by
    simp only [opD, hx', hy', h1]
  rw [h3]
  exact h

theorem sameEdges_ok (va vb : Value) (xs ys : List (Nat × Nat)) (ha : Eg H va xs) (hb : Eg H vb ys) (hx : xs.length < 1000000) :
    Fn Try.prog 30 [va, vb] H fun r H' => H' = H ∧ r = .bool (decide (xs = ys)) := by
  have ha2 : Sl2 H va _ _ xs := ha
  have hb2 : Sl2 H vb _ _ ys := hb
  refine Fn.of_wp (fn := Try.f30) rfl rfl (by kernel_rfl) fun l hl => ?_
  have hn : l.length = 26 := by rw [hl]; rfl
  have g0 : get l 0 = va := by rw [hl]; rfl
  have g1 : get l 1 = vb := by rw [hl]; rfl
  clear hl
  repeat first | (with_reducible first | refine Wp.seq ?_ | refine Wp.reg ?_ | refine Wp.block ?_ | refine Wp.skip ?_ | refine Wp.ret ?_ | refine Wp.exit ?_ | refine Wp.label ?_ | refine Wp.condG ?_) | simp (disch := omega) only [↓RP, RQ, TS, TR, ↓reduceIte, Nat.reduceEqDiff, Nat.reduceLT, Nat.reduceLeDiff, Int.reduceLT, Int.reduceLE, Int.reduceEq, Int.reduceAdd, Int.reduceSub, Int.reduceNeg, Int.reduceToNat, Nat.reduceAdd, Nat.reduceMul, Nat.reduceSub, reduceCtorEq, RC, Int.cast_ofNat_Int, hn, g0, g1, ha2.len, hb2.len]
  refine condW_split (fun h => ?_) (fun h => ?_)
  · have hne : decide (xs = ys) = false := decide_eq_false fun e => h (by rw [e])
    repeat first | (with_reducible first | refine Wp.seq ?_ | refine Wp.reg ?_ | refine Wp.block ?_ | refine Wp.skip ?_ | refine Wp.ret ?_ | refine Wp.exit ?_ | refine Wp.label ?_ | refine Wp.condG ?_) | simp (disch := omega) only [↓RP, RQ, TS, TR, ↓reduceIte, Nat.reduceEqDiff, Nat.reduceLT, Nat.reduceLeDiff, Int.reduceLT, Int.reduceLE, Int.reduceEq, Int.reduceAdd, Int.reduceSub, Int.reduceNeg, Int.reduceToNat, Nat.reduceAdd, Nat.reduceMul, Nat.reduceSub, reduceCtorEq, RC, Int.cast_ofNat_Int, hn, g0, g1, hne]
  have hl : xs.length = ys.length := by omega
  repeat first | (with_reducible first | refine Wp.seq ?_ | refine Wp.reg ?_ | refine Wp.block ?_ | refine Wp.skip ?_ | refine Wp.ret ?_ | refine Wp.exit ?_ | refine Wp.label ?_ | refine Wp.condG ?_) | simp (disch := omega) only [↓RP, RQ, TS, TR, ↓reduceIte, Nat.reduceEqDiff, Nat.reduceLT, Nat.reduceLeDiff, Int.reduceLT, Int.reduceLE, Int.reduceEq, Int.reduceAdd, Int.reduceSub, Int.reduceNeg, Int.reduceToNat, Nat.reduceAdd, Nat.reduceMul, Nat.reduceSub, reduceCtorEq, RC, Int.cast_ofNat_Int, hn, g0, g1]
  refine Wp.loopN (fun n l H' => H' = H ∧ l.length = 26 ∧ get l 0 = va ∧ get l 1 = vb ∧ ∃ k : Nat, n + k = xs.length ∧ get l 5 = I k ∧ ∀ j, j < k → xs.getD j (0, 0) = ys.getD j (0, 0)) xs.length ?_ ?_
  · repeat first | (with_reducible first | refine Wp.seq ?_ | refine Wp.reg ?_ | refine Wp.block ?_ | refine Wp.skip ?_ | refine Wp.ret ?_ | refine Wp.exit ?_ | refine Wp.label ?_ | refine Wp.condG ?_) | simp (disch := omega) only [↓RP, RQ, TS, TR, ↓reduceIte, Nat.reduceEqDiff, Nat.reduceLT, Nat.reduceLeDiff, Int.reduceLT, Int.reduceLE, Int.reduceEq, Int.reduceAdd, Int.reduceSub, Int.reduceNeg, Int.reduceToNat, Nat.reduceAdd, Nat.reduceMul, Nat.reduceSub, reduceCtorEq, RC, Int.cast_ofNat_Int, hn, g0, g1]
    exact ⟨0, rfl, rfl, fun j hj => absurd hj (Nat.not_lt_zero _)⟩
  clear hn g0 g1
  rintro n l H' ⟨rfl, hn, g0, g1, k, hk, g5, hs⟩
  repeat first | (with_reducible first | refine Wp.seq ?_ | refine Wp.reg ?_ | refine Wp.block ?_ | refine Wp.skip ?_ | refine Wp.ret ?_ | refine Wp.exit ?_ | refine Wp.label ?_ | refine Wp.condG ?_) | simp (disch := omega) only [↓RP, RQ, TS, TR, ↓reduceIte, Nat.reduceEqDiff, Nat.reduceLT, Nat.reduceLeDiff, Int.reduceLT, Int.reduceLE, Int.reduceEq, Int.reduceAdd, Int.reduceSub, Int.reduceNeg, Int.reduceToNat, Nat.reduceAdd, Nat.reduceMul, Nat.reduceSub, reduceCtorEq, RC, Int.cast_ofNat_Int, hn, g0, g1, g5, ha2.len]
  refine condW_split (fun h2 => ?_) (fun h2 => ?_)
  · have hkl : k < xs.length := by omega
    repeat first | (with_reducible first | refine Wp.seq ?_ | refine Wp.reg ?_ | refine Wp.block ?_ | refine Wp.skip ?_ | refine Wp.ret ?_ | refine Wp.exit ?_ | refine Wp.label ?_ | refine Wp.condG ?_) | with_reducible refine Wp.drw hmix (by kernel_rfl) ?_ | simp (disch := omega) only [↓RP, RQ, TS, TR, ↓reduceIte, Nat.reduceEqDiff, Nat.reduceLT, Nat.reduceLeDiff, Int.reduceLT, Int.reduceLE, Int.reduceEq, Int.reduceAdd, Int.reduceSub, Int.reduceNeg, Int.reduceToNat, Nat.reduceAdd, Nat.reduceMul, Nat.reduceSub, reduceCtorEq, RC, Int.cast_ofNat_Int, hn, g0, g1, g5, ha2.idx, hb2.idx, ha2.ldA (0, 0), hb2.ldA (0, 0)]
    refine binW_neqS (by simp (disch := omega) only [↓RP, RQ, TS, TR, ↓reduceIte, Nat.reduceEqDiff, Nat.reduceLT, Nat.reduceLeDiff, Int.reduceLT, Int.reduceLE, Int.reduceEq, Int.reduceAdd, Int.reduceSub, Int.reduceNeg, Int.reduceToNat, Nat.reduceAdd, Nat.reduceMul, Nat.reduceSub, reduceCtorEq, RC, Int.cast_ofNat_Int, hn]) (by simp (disch := omega) only [↓RP, RQ, TS, TR, ↓reduceIte, Nat.reduceEqDiff, Nat.reduceLT, Nat.reduceLeDiff, Int.reduceLT, Int.reduceLE, Int.reduceEq, Int.reduceAdd, Int.reduceSub, Int.reduceNeg, Int.reduceToNat, Nat.reduceAdd, Nat.reduceMul, Nat.reduceSub, reduceCtorEq, RC, Int.cast_ofNat_Int, hn]) ?_
    by_cases he : xs.getD k (0, 0) = ys.getD k (0, 0)
    · rw [he, BEq.rfl, BEq.rfl]
      repeat first | (with_reducible first | refine Wp.seq ?_ | refine Wp.reg ?_ | refine Wp.block ?_ | refine Wp.skip ?_ | refine Wp.ret ?_ | refine Wp.exit ?_ | refine Wp.label ?_ | refine Wp.condG ?_) | simp (disch := omega) only [↓RP, RQ, TS, TR, ↓reduceIte, Nat.reduceEqDiff, Nat.reduceLT, Nat.reduceLeDiff, Int.reduceLT, Int.reduceLE, Int.reduceEq, Int.reduceAdd, Int.reduceSub, Int.reduceNeg, Int.reduceToNat, Nat.reduceAdd, Nat.reduceMul, Nat.reduceSub, reduceCtorEq, RC, Int.cast_ofNat_Int, hn, g0, g1, g5, wrap_fit]
      refine ⟨n - 1, by omega, k + 1, by omega, rfl, fun j hj => ?_⟩
      by_cases e : j = k
      · subst e; exact he
      · exact hs j (by omega)
    · have hf : (!((((xs.getD k (0, 0)).1 : Int) == ((ys.getD k (0, 0)).1 : Int)) && (((xs.getD k (0, 0)).2 : Int) == ((ys.getD k (0, 0)).2 : Int)))) = true := by
        rw [Bool.not_eq_true', Bool.and_eq_false_iff]
        apply Classical.byContradiction
        intro hh
        apply he
        apply Prod.ext
        · apply Classical.byContradiction
          intro h3
          exact hh (.inl (beq_eq_false_iff_ne.2 (by omega)))
        · apply Classical.byContradiction
          intro h3
          exact hh (.inr (beq_eq_false_iff_ne.2 (by omega)))
      have hne : decide (xs = ys) = false := decide_eq_false fun e => he (by rw [e])
      rw [hf]
      repeat first | (with_reducible first | refine Wp.seq ?_ | refine Wp.reg ?_ | refine Wp.block ?_ | refine Wp.skip ?_ | refine Wp.ret ?_ | refine Wp.exit ?_ | refine Wp.label ?_ | refine Wp.condG ?_) | simp (disch := omega) only [↓RP, RQ, TS, TR, ↓reduceIte, Nat.reduceEqDiff, Nat.reduceLT, Nat.reduceLeDiff, Int.reduceLT, Int.reduceLE, Int.reduceEq, Int.reduceAdd, Int.reduceSub, Int.reduceNeg, Int.reduceToNat, Nat.reduceAdd, Nat.reduceMul, Nat.reduceSub, reduceCtorEq, RC, Int.cast_ofNat_Int, hn, g0, g1, g5, hne]
  · have e : xs = ys := by
      apply List.ext_getElem hl
      intro j h3 h4
      have := hs j (by omega)
      rw [List.getD_eq_getElem?_getD, List.getD_eq_getElem?_getD, List.getElem?_eq_getElem h3, List.getElem?_eq_getElem h4] at this
      exact this
    have ht : decide (xs = ys) = true := decide_eq_true e
    repeat first | (with_reducible first | refine Wp.seq ?_ | refine Wp.reg ?_ | refine Wp.block ?_ | refine Wp.skip ?_ | refine Wp.ret ?_ | refine Wp.exit ?_ | refine Wp.label ?_ | refine Wp.condG ?_) | simp (disch := omega) only [↓RP, RQ, TS, TR, ↓reduceIte, Nat.reduceEqDiff, Nat.reduceLT, Nat.reduceLeDiff, Int.reduceLT, Int.reduceLE, Int.reduceEq, Int.reduceAdd, Int.reduceSub, Int.reduceNeg, Int.reduceToNat, Nat.reduceAdd, Nat.reduceMul, Nat.reduceSub, reduceCtorEq, RC, Int.cast_ofNat_Int, hn, g0, g1, g5, ht]

theorem binD_eqlS {l : List Value} {d : Option Tmp} {ty : TypeId} {pos : String} {af : Array Edge} {g : Option (Nat × Bool)} {p q : Tmp} {t t2 : TypeId} {a b c e : Int} {H : Heap} (hx : get l p = .agg #[I a, I b]) (hy : get l q = .agg #[I c, I e])
    (ht : Try.prog.eqGuardType Try.prog.depth t = false) (hq : pureRun Try.prog (Op.equalIn (9998 + 2) t (.agg #[I a, I b]) (.agg #[I c, I e])) = some ((a == c) && (b == e))) :
    plainD Try.prog ⟨d, .binOp .eql t (.tmp p) (.tmp q) t2, ty, pos, af, g⟩ l H = some (.bool ((a == c) && (b == e)), H) := by
  have hx' : ev l (.tmp p) = .agg #[I a, I b] := hx
  have hy' : ev l (.tmp q) = .agg #[I c, I e] := hy
  have h2 : pureRun Try.prog (execOp (ev l) ⟨d, .binOp .eql t (.tmp p) (.tmp q) t2, ty, pos, af, g⟩) = some (.value (.bool ((a == c) && (b == e)))) := by
    simp only [execOp]
    rw [hx', hy']
    simp only [pureRun_bind, guardS _ t ht, Option.bind_some]
    have h3 : pureRun Try.prog (binOp .eql t (.agg #[I a, I b]) (.agg #[I c, I e])) = some (.bool ((a == c) && (b == e))) := by
      have hmd : Op.maxDepth = 9998 + 2 := by decide
      simp only [binOp, pureRun_bind, Op.equal]
      rw [hmd, hq, Option.bind_some, pureRun_pure]
    rw [h3]
    rfl
  unfold plainD
  rw [h2]
  have h4 : (Op.operands (.binOp .eql t (.tmp p) (.tmp q) t2)).toList.all (fun x => flat (ev l x)) = true := by
    show ([Operand.tmp p, Operand.tmp q]).all (fun x => flat (ev l x)) = true
    simp only [List.all_cons, List.all_nil, hx', hy']
    rfl
  rw [if_pos h4]
  rfl

theorem binW_eqlS {l : List Value} {K : Value → Heap → Prop} {d : Option Tmp} {ty : TypeId} {pos : String} {af : Array Edge} {g : Option (Nat × Bool)} {p q : Tmp} {t2 : TypeId} {a b c e : Int} (hx : get l p = .agg #[I a, I b]) (hy : get l q = .agg #[I c, I e])
    (h : K (.bool ((a == c) && (b == e))) H) : binW Try.prog ⟨d, .binOp .eql 64 (.tmp p) (.tmp q) t2, ty, pos, af, g⟩ .eql l H (.agg #[I a, I b]) (.agg #[I c, I e]) K := by
  have h1 := binD_eqlS (l := l) (d := d) (ty := ty) (pos := pos) (af := af) (g := g) (t := 64) (t2 := t2) (H := H) hx hy (by kernel_rfl) (eqS64 9998 a b c e)
  have hx' : ev l (.tmp p) = .agg #[I a, I b] := hx
  have hy' : ev l (.tmp q) = .agg #[I c, I e] := hy
  show bindW (opD Try.prog ⟨d, .binOp .eql 64 (.tmp p) (.tmp q) t2, ty, pos, af, g⟩ l H) K
  have h3 : opD Try.prog ⟨d, .binOp .eql 64 (.tmp p) (.tmp q) t2, ty, pos, af, g⟩ l H = some (.bool ((a == c) && (b == e)), H) := by
    simp only [opD, hx', hy', h1]
  rw [h3]
  exact h

end Go.Ds
