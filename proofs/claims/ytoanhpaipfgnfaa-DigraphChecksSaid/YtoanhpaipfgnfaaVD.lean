/-
  The law on Reach and Distance: its walk.
-/
import Derived.Test.YtoanhpaipfgnfaaVC
import Derived.Test.YtoanhpaipfgnfaaVB
import Derived.Below
import Derived.ProofKit
import Derived.Deep.SlicePairs
import Derived.ChangeSame
set_option linter.unusedVariables false
set_option linter.unusedSimpArgs false
namespace Go.Ds
open Go.Proofs Go.Plain
variable {H : Heap}

theorem mkE_length (a : Nat) (ls : List (Nat × Nat)) : (mkE a ls).length = ls.length := by simp [mkE]
theorem mkE_val (a : Nat) (ls : List (Nat × Nat)) : ∀ e ∈ mkE a ls, e.1 < mkN a ∧ e.2 < mkN a := by
  intro e he
  obtain ⟨x, _, rfl⟩ := List.mem_map.1 he
  have : 0 < mkN a := by unfold mkN; omega
  exact ⟨Nat.mod_lt _ this, Nat.mod_lt _ this⟩
theorem mkN_pos (a : Nat) : 0 < mkN a ∧ mkN a ≤ 7 := by unfold mkN; omega

theorem reaches_ok (a c : Nat) (ha : a < 256) (hc : c < 256) (v : Value) (ls : List (Nat × Nat)) (hv : Lk H v ls) (hb : ∀ x ∈ ls, x.1 < 256 ∧ x.2 < 256) : Fn Try.prog 6 [U a, v, U c] H fun r H' => r = .bool true := by
  refine Fn.of_wp (fn := Try.f6) rfl rfl (by kernel_rfl) fun l hl => ?_
  have hn : l.length = 107 := by rw [hl]; rfl
  have g0 : get l 0 = U a := by rw [hl]; rfl
  have g1 : get l 1 = v := by rw [hl]; rfl
  have g2 : get l 2 = U c := by rw [hl]; rfl
  clear hl
  have hv0 : Sl2 H v _ _ ls := hv
  repeat first | (with_reducible first | refine Wp.seq ?_ | refine Wp.reg ?_ | refine Wp.block ?_ | refine Wp.skip ?_ | refine Wp.ret ?_ | refine Wp.exit ?_ | refine Wp.label ?_ | refine Wp.condG ?_) | simp (disch := omega) only [↓RP, RQ, TS, TR, ↓reduceIte, Nat.reduceEqDiff, Nat.reduceLT, Nat.reduceLeDiff, Int.reduceLT, Int.reduceLE, Int.reduceEq, Int.reduceAdd, Int.reduceSub, Int.reduceNeg, Int.reduceToNat, Nat.reduceAdd, Nat.reduceMul, Nat.reduceSub, reduceCtorEq, RC, Int.cast_ofNat_Int, hn, g0, g1, g2]
  refine callFW_of (known_ok H) ?_
  rintro r H1 ⟨rfl, rfl⟩
  repeat first | (with_reducible first | refine Wp.seq ?_ | refine Wp.reg ?_ | refine Wp.block ?_ | refine Wp.skip ?_ | refine Wp.ret ?_ | refine Wp.exit ?_ | refine Wp.label ?_ | refine Wp.condG ?_) | simp (disch := omega) only [↓RP, RQ, TS, TR, ↓reduceIte, Nat.reduceEqDiff, Nat.reduceLT, Nat.reduceLeDiff, Int.reduceLT, Int.reduceLE, Int.reduceEq, Int.reduceAdd, Int.reduceSub, Int.reduceNeg, Int.reduceToNat, Nat.reduceAdd, Nat.reduceMul, Nat.reduceSub, reduceCtorEq, RC, Int.cast_ofNat_Int, hn, g0, g1, g2, hv0.len]
  refine condW_split (fun h => ?_) (fun h => ?_)
  · repeat first | (with_reducible first | refine Wp.seq ?_ | refine Wp.reg ?_ | refine Wp.block ?_ | refine Wp.skip ?_ | refine Wp.ret ?_ | refine Wp.exit ?_ | refine Wp.label ?_ | refine Wp.condG ?_) | simp (disch := omega) only [↓RP, RQ, TS, TR, ↓reduceIte, Nat.reduceEqDiff, Nat.reduceLT, Nat.reduceLeDiff, Int.reduceLT, Int.reduceLE, Int.reduceEq, Int.reduceAdd, Int.reduceSub, Int.reduceNeg, Int.reduceToNat, Nat.reduceAdd, Nat.reduceMul, Nat.reduceSub, reduceCtorEq, RC, Int.cast_ofNat_Int, hn, g0, g1, g2]
    refine callFW_of (known_ok _) ?_
    rintro r H1 ⟨rfl, rfl⟩
    repeat first | (with_reducible first | refine Wp.seq ?_ | refine Wp.reg ?_ | refine Wp.block ?_ | refine Wp.skip ?_ | refine Wp.ret ?_ | refine Wp.exit ?_ | refine Wp.label ?_ | refine Wp.condG ?_) | simp (disch := omega) only [↓RP, RQ, TS, TR, ↓reduceIte, Nat.reduceEqDiff, Nat.reduceLT, Nat.reduceLeDiff, Int.reduceLT, Int.reduceLE, Int.reduceEq, Int.reduceAdd, Int.reduceSub, Int.reduceNeg, Int.reduceToNat, Nat.reduceAdd, Nat.reduceMul, Nat.reduceSub, reduceCtorEq, RC, Int.cast_ofNat_Int, hn, g0, g1, g2]
  repeat first | (with_reducible first | refine Wp.seq ?_ | refine Wp.reg ?_ | refine Wp.block ?_ | refine Wp.skip ?_ | refine Wp.ret ?_ | refine Wp.exit ?_ | refine Wp.label ?_ | refine Wp.condG ?_) | simp (disch := omega) only [↓RP, RQ, TS, TR, ↓reduceIte, Nat.reduceEqDiff, Nat.reduceLT, Nat.reduceLeDiff, Int.reduceLT, Int.reduceLE, Int.reduceEq, Int.reduceAdd, Int.reduceSub, Int.reduceNeg, Int.reduceToNat, Nat.reduceAdd, Nat.reduceMul, Nat.reduceSub, reduceCtorEq, RC, Int.cast_ofNat_Int, hn, g0, g1, g2]
  refine callFW_of (make_ok a ha v ls hv (by omega) hb) ?_
  rintro r H2 ⟨w, rfl, hE, _⟩
  have hN := mkN_pos a
  have hval := mkE_val a ls
  have hl := mkE_length a ls
  generalize mkE a ls = es at hE hval hl
  generalize mkN a = N at hE hval hN
  have hs : c % N < N := Nat.mod_lt _ hN.1
  repeat first | (with_reducible first | refine Wp.seq ?_ | refine Wp.reg ?_ | refine Wp.block ?_ | refine Wp.skip ?_ | refine Wp.ret ?_ | refine Wp.exit ?_ | refine Wp.label ?_ | refine Wp.condG ?_) | simp (disch := omega) only [↓RP, RQ, TS, TR, ↓reduceIte, Nat.reduceEqDiff, Nat.reduceLT, Nat.reduceLeDiff, Int.reduceLT, Int.reduceLE, Int.reduceEq, Int.reduceAdd, Int.reduceSub, Int.reduceNeg, Int.reduceToNat, Nat.reduceAdd, Nat.reduceMul, Nat.reduceSub, reduceCtorEq, RC, Int.cast_ofNat_Int, hn, g0, g1, g2]
  refine (St.refl _ H2).eNew 2 [I 0, .slice none 0 0] rfl rfl rfl tS27 fun A H3 hS => ?_
  repeat first | (with_reducible first | refine Wp.seq ?_ | refine Wp.reg ?_ | refine Wp.block ?_ | refine Wp.skip ?_ | refine Wp.ret ?_ | refine Wp.exit ?_ | refine Wp.label ?_ | refine Wp.condG ?_) | simp (disch := omega) only [↓RP, RQ, TS, TR, ↓reduceIte, Nat.reduceEqDiff, Nat.reduceLT, Nat.reduceLeDiff, Int.reduceLT, Int.reduceLE, Int.reduceEq, Int.reduceAdd, Int.reduceSub, Int.reduceNeg, Int.reduceToNat, Nat.reduceAdd, Nat.reduceMul, Nat.reduceSub, reduceCtorEq, RC, Int.cast_ofNat_Int, hn, g0, g1, g2]
  refine hS.eStore 0 rfl [I N, w] rfl (by simp [hE.one]; rfl) tS27 (by simp) fun H4 hS => ?_
  simp only [List.nil_append, List.cons_append, List.append_nil, List.set_cons_zero, List.set_cons_succ, setMany_cons, setMany_nil, Nat.zero_add, Nat.mul_one, Nat.add_zero] at hS
  repeat first | (with_reducible first | refine Wp.seq ?_ | refine Wp.reg ?_ | refine Wp.block ?_ | refine Wp.skip ?_ | refine Wp.ret ?_ | refine Wp.exit ?_ | refine Wp.label ?_ | refine Wp.condG ?_) | simp (disch := omega) only [↓RP, RQ, TS, TR, ↓reduceIte, Nat.reduceEqDiff, Nat.reduceLT, Nat.reduceLeDiff, Int.reduceLT, Int.reduceLE, Int.reduceEq, Int.reduceAdd, Int.reduceSub, Int.reduceNeg, Int.reduceToNat, Nat.reduceAdd, Nat.reduceMul, Nat.reduceSub, reduceCtorEq, RC, Int.cast_ofNat_Int, hn, g0, g1, g2, hS.ld 0 rfl, wrap_fit, tmod_nat, hS.ldA 0 rfl]
  generalize c % N = s at hs
  refine callFW_of (reach_ok N w es (hS.base hE) (by omega) (by omega) hval s hs) ?_
  rintro r H5 ⟨d, wr, rfl, hd, hS5⟩
  have hS := hS.trans hS5
  simp only [List.nil_append, List.cons_append, List.append_nil, List.set_cons_zero, List.set_cons_succ, setMany_cons, setMany_nil, Nat.zero_add, Nat.mul_one, Nat.add_zero] at hS
  repeat first | (with_reducible first | refine Wp.seq ?_ | refine Wp.reg ?_ | refine Wp.block ?_ | refine Wp.skip ?_ | refine Wp.ret ?_ | refine Wp.exit ?_ | refine Wp.label ?_ | refine Wp.condG ?_) | simp (disch := omega) only [↓RP, RQ, TS, TR, ↓reduceIte, Nat.reduceEqDiff, Nat.reduceLT, Nat.reduceLeDiff, Int.reduceLT, Int.reduceLE, Int.reduceEq, Int.reduceAdd, Int.reduceSub, Int.reduceNeg, Int.reduceToNat, Nat.reduceAdd, Nat.reduceMul, Nat.reduceSub, reduceCtorEq, RC, Int.cast_ofNat_Int, hn, g0, g1, g2, hS.ldA 0 rfl]
  refine callFW_of (distance_ok N w es (hS.base hE) (by omega) (by omega) hval s hs) ?_
  rintro r H6 ⟨d', wd, rfl, hd', hS6⟩
  obtain rfl := hd.eq hd'
  have hS6 := hS.trans hS6
  simp only [List.nil_append, List.cons_append, List.append_nil, List.set_cons_zero, List.set_cons_succ, setMany_cons, setMany_nil, Nat.zero_add, Nat.mul_one, Nat.add_zero] at hS6
  repeat first | (with_reducible first | refine Wp.seq ?_ | refine Wp.reg ?_ | refine Wp.block ?_ | refine Wp.skip ?_ | refine Wp.ret ?_ | refine Wp.exit ?_ | refine Wp.label ?_ | refine Wp.condG ?_) | simp (disch := omega) only [↓RP, RQ, TS, TR, ↓reduceIte, Nat.reduceEqDiff, Nat.reduceLT, Nat.reduceLeDiff, Int.reduceLT, Int.reduceLE, Int.reduceEq, Int.reduceAdd, Int.reduceSub, Int.reduceNeg, Int.reduceToNat, Nat.reduceAdd, Nat.reduceMul, Nat.reduceSub, reduceCtorEq, RC, Int.cast_ofNat_Int, hn, g0, g1, g2]
  refine Wp.drwT hmix [(1, 4)] (by kernel_rfl) (by kernel_rfl) ?_
  repeat first | (with_reducible first | refine Wp.seq ?_ | refine Wp.reg ?_ | refine Wp.block ?_ | refine Wp.skip ?_ | refine Wp.ret ?_ | refine Wp.exit ?_ | refine Wp.label ?_ | refine Wp.condG ?_) | simp (disch := omega) only [↓RP, RQ, TS, TR, ↓reduceIte, Nat.reduceEqDiff, Nat.reduceLT, Nat.reduceLeDiff, Int.reduceLT, Int.reduceLE, Int.reduceEq, Int.reduceAdd, Int.reduceSub, Int.reduceNeg, Int.reduceToNat, Nat.reduceAdd, Nat.reduceMul, Nat.reduceSub, reduceCtorEq, RC, Int.cast_ofNat_Int, hn, g0, g1, g2, hS6.ldA 0 rfl, hS6.ld 0 rfl]
  refine callFW_of (edges_ok N w es (hS6.base hE) (by omega)) ?_
  rintro ev H7 ⟨hEv, hS7⟩
  have hS7 := hS6.trans hS7
  simp only [List.nil_append, List.cons_append, List.append_nil, List.set_cons_zero, List.set_cons_succ, setMany_cons, setMany_nil, Nat.zero_add, Nat.mul_one, Nat.add_zero] at hS7
  repeat first | (with_reducible first | refine Wp.seq ?_ | refine Wp.reg ?_ | refine Wp.block ?_ | refine Wp.skip ?_ | refine Wp.ret ?_ | refine Wp.exit ?_ | refine Wp.label ?_ | refine Wp.condG ?_) | simp (disch := omega) only [↓RP, RQ, TS, TR, ↓reduceIte, Nat.reduceEqDiff, Nat.reduceLT, Nat.reduceLeDiff, Int.reduceLT, Int.reduceLE, Int.reduceEq, Int.reduceAdd, Int.reduceSub, Int.reduceNeg, Int.reduceToNat, Nat.reduceAdd, Nat.reduceMul, Nat.reduceSub, reduceCtorEq, RC, Int.cast_ofNat_Int, hn, g0, g1, g2]
  refine callFW_of (steps_ok N ev es hEv (by omega) (by omega) hval) ?_
  rintro st H8 ⟨ws, rows, hrows, hS8⟩
  have hS8 := hS7.trans hS8
  simp only [List.nil_append, List.cons_append, List.append_nil, List.set_cons_zero, List.set_cons_succ, setMany_cons, setMany_nil, Nat.zero_add, Nat.mul_one, Nat.add_zero] at hS8
  have hwd : Sl1 H8 wd (.int .i64) d := hS8.rd 2 rfl
  have hwr : Sl1 H8 wr (fun n : Nat => I n) ((List.range N).filter fun k => decide (0 ≤ d.getD k 0)) := hS8.rd 1 rfl
  have hst : Sl1 H8 st ws (List.range N) := hS8.rd 3 rfl
  have hdl := hd.len
  have hrl : (List.range N).length = N := List.length_range
  repeat first | (with_reducible first | refine Wp.seq ?_ | refine Wp.reg ?_ | refine Wp.block ?_ | refine Wp.skip ?_ | refine Wp.ret ?_ | refine Wp.exit ?_ | refine Wp.label ?_ | refine Wp.condG ?_) | simp (disch := omega) only [↓RP, RQ, TS, TR, ↓reduceIte, Nat.reduceEqDiff, Nat.reduceLT, Nat.reduceLeDiff, Int.reduceLT, Int.reduceLE, Int.reduceEq, Int.reduceAdd, Int.reduceSub, Int.reduceNeg, Int.reduceToNat, Nat.reduceAdd, Nat.reduceMul, Nat.reduceSub, reduceCtorEq, RC, Int.cast_ofNat_Int, hn, g0, g1, g2, hS7.ld 0 rfl, hS8.ld 0 rfl, hwd.len]
  refine condW_split (fun h => absurd h (by omega)) (fun _ => ?_)
  repeat first | (with_reducible first | refine Wp.seq ?_ | refine Wp.reg ?_ | refine Wp.block ?_ | refine Wp.skip ?_ | refine Wp.ret ?_ | refine Wp.exit ?_ | refine Wp.label ?_ | refine Wp.condG ?_) | simp (disch := omega) only [↓RP, RQ, TS, TR, ↓reduceIte, Nat.reduceEqDiff, Nat.reduceLT, Nat.reduceLeDiff, Int.reduceLT, Int.reduceLE, Int.reduceEq, Int.reduceAdd, Int.reduceSub, Int.reduceNeg, Int.reduceToNat, Nat.reduceAdd, Nat.reduceMul, Nat.reduceSub, reduceCtorEq, RC, Int.cast_ofNat_Int, hn, g0, g1, g2]
  have hrow : Sl1 H8 (ws s) (fun n : Nat => I n) (rows s) := hS8.rd (s + 4) (inner_get N ws rows s hs)
  have hwant := fun i hi => want_eq hd (hrows s hs) i hi
  have hrlen := (hrows s hs).len
  refine Wp.loopN (fun n l H' => H' = H8 ∧ l.length = 107 ∧ get l 7 = ptr A 0 2 ∧ get l 8 = I s ∧ get l 9 = wr ∧ get l 11 = wd ∧ get l 13 = st ∧ ∃ i : Nat, n + i = N ∧ get l 15 = I i ∧
    get l 14 = I ((List.range i).filter fun k => decide (0 ≤ d.getD k 0)).length) N ?_ ?_
  · repeat first | (with_reducible first | refine Wp.seq ?_ | refine Wp.reg ?_ | refine Wp.block ?_ | refine Wp.skip ?_ | refine Wp.ret ?_ | refine Wp.exit ?_ | refine Wp.label ?_ | refine Wp.condG ?_) | simp (disch := omega) only [↓RP, RQ, TS, TR, ↓reduceIte, Nat.reduceEqDiff, Nat.reduceLT, Nat.reduceLeDiff, Int.reduceLT, Int.reduceLE, Int.reduceEq, Int.reduceAdd, Int.reduceSub, Int.reduceNeg, Int.reduceToNat, Nat.reduceAdd, Nat.reduceMul, Nat.reduceSub, reduceCtorEq, RC, Int.cast_ofNat_Int, hn, g0, g1, g2]
    exact ⟨0, rfl, rfl, rfl⟩
  clear hn g0 g1 g2
  rintro n l H' ⟨rfl, hn, g7, g8, g9, g11, g13, i, hi, g15, g14⟩
  repeat first | (with_reducible first | refine Wp.seq ?_ | refine Wp.reg ?_ | refine Wp.block ?_ | refine Wp.skip ?_ | refine Wp.ret ?_ | refine Wp.exit ?_ | refine Wp.label ?_ | refine Wp.condG ?_) | simp (disch := omega) only [↓RP, RQ, TS, TR, ↓reduceIte, Nat.reduceEqDiff, Nat.reduceLT, Nat.reduceLeDiff, Int.reduceLT, Int.reduceLE, Int.reduceEq, Int.reduceAdd, Int.reduceSub, Int.reduceNeg, Int.reduceToNat, Nat.reduceAdd, Nat.reduceMul, Nat.reduceSub, reduceCtorEq, RC, Int.cast_ofNat_Int, hn, g7, g8, g9, g11, g13, g14, g15, hS8.ld 0 rfl]
  refine condW_split (fun h3 => ?_) (fun h3 => ?_)
  · have hiN : i < N := by omega
    have hw := hwant i hiN
    repeat first | (with_reducible first | refine Wp.seq ?_ | refine Wp.reg ?_ | refine Wp.block ?_ | refine Wp.skip ?_ | refine Wp.ret ?_ | refine Wp.exit ?_ | refine Wp.label ?_ | refine Wp.condG ?_) | simp (disch := omega) only [↓RP, RQ, TS, TR, ↓reduceIte, Nat.reduceEqDiff, Nat.reduceLT, Nat.reduceLeDiff, Int.reduceLT, Int.reduceLE, Int.reduceEq, Int.reduceAdd, Int.reduceSub, Int.reduceNeg, Int.reduceToNat, Nat.reduceAdd, Nat.reduceMul, Nat.reduceSub, reduceCtorEq, RC, Int.cast_ofNat_Int, hn, g7, g8, g9, g11, g13, g14, g15, hst.idx, hst.ld 0, getD_range, hrow.idx, hrow.ld 0]
    refine condW_cut (fun e l H2 => e = .normal ∧ H2 = H' ∧ l.length = 107 ∧ get l 7 = ptr A 0 2 ∧ get l 8 = I s ∧ get l 9 = wr ∧ get l 11 = wd ∧ get l 13 = st ∧ get l 15 = I i ∧ get l 14 = I ((List.range i).filter fun k => decide (0 ≤ d.getD k 0)).length ∧ get l 16 = I (d.getD i 0)) ?_ ?_
    · refine condW_split (fun h4 => ?_) (fun h4 => ?_)
      · repeat first | (with_reducible first | refine Wp.seq ?_ | refine Wp.reg ?_ | refine Wp.block ?_ | refine Wp.skip ?_ | refine Wp.ret ?_ | refine Wp.exit ?_ | refine Wp.label ?_ | refine Wp.condG ?_) | simp (disch := omega) only [↓RP, RQ, TS, TR, ↓reduceIte, Nat.reduceEqDiff, Nat.reduceLT, Nat.reduceLeDiff, Int.reduceLT, Int.reduceLE, Int.reduceEq, Int.reduceAdd, Int.reduceSub, Int.reduceNeg, Int.reduceToNat, Nat.reduceAdd, Nat.reduceMul, Nat.reduceSub, reduceCtorEq, RC, Int.cast_ofNat_Int, hn, g7, g8, g9, g11, g13, g14, g15]
        rw [hw, if_pos (by omega)]
      · repeat first | (with_reducible first | refine Wp.seq ?_ | refine Wp.reg ?_ | refine Wp.block ?_ | refine Wp.skip ?_ | refine Wp.ret ?_ | refine Wp.exit ?_ | refine Wp.label ?_ | refine Wp.condG ?_) | simp (disch := omega) only [↓RP, RQ, TS, TR, ↓reduceIte, Nat.reduceEqDiff, Nat.reduceLT, Nat.reduceLeDiff, Int.reduceLT, Int.reduceLE, Int.reduceEq, Int.reduceAdd, Int.reduceSub, Int.reduceNeg, Int.reduceToNat, Nat.reduceAdd, Nat.reduceMul, Nat.reduceSub, reduceCtorEq, RC, Int.cast_ofNat_Int, hn, g7, g8, g9, g11, g13, g14, g15]
        rw [if_neg (by omega)] at hw
        refine condW_split (fun h5 => ?_) (fun h5 => ?_)
        · repeat first | (with_reducible first | refine Wp.seq ?_ | refine Wp.reg ?_ | refine Wp.block ?_ | refine Wp.skip ?_ | refine Wp.ret ?_ | refine Wp.exit ?_ | refine Wp.label ?_ | refine Wp.condG ?_) | simp (disch := omega) only [↓RP, RQ, TS, TR, ↓reduceIte, Nat.reduceEqDiff, Nat.reduceLT, Nat.reduceLeDiff, Int.reduceLT, Int.reduceLE, Int.reduceEq, Int.reduceAdd, Int.reduceSub, Int.reduceNeg, Int.reduceToNat, Nat.reduceAdd, Nat.reduceMul, Nat.reduceSub, reduceCtorEq, RC, Int.cast_ofNat_Int, hn, g7, g8, g9, g11, g13, g14, g15]
          rw [hw, if_pos (by omega)]
        · repeat first | (with_reducible first | refine Wp.seq ?_ | refine Wp.reg ?_ | refine Wp.block ?_ | refine Wp.skip ?_ | refine Wp.ret ?_ | refine Wp.exit ?_ | refine Wp.label ?_ | refine Wp.condG ?_) | simp (disch := omega) only [↓RP, RQ, TS, TR, ↓reduceIte, Nat.reduceEqDiff, Nat.reduceLT, Nat.reduceLeDiff, Int.reduceLT, Int.reduceLE, Int.reduceEq, Int.reduceAdd, Int.reduceSub, Int.reduceNeg, Int.reduceToNat, Nat.reduceAdd, Nat.reduceMul, Nat.reduceSub, reduceCtorEq, RC, Int.cast_ofNat_Int, hn, g7, g8, g9, g11, g13, g14, g15]
          rw [hw, if_neg (by omega)]
    clear hn g7 g8 g9 g11 g13 g14 g15
    rintro e l H2 ⟨rfl, rfl, hn, g7, g8, g9, g11, g13, g15, g14, g16⟩
    repeat first | (with_reducible first | refine Wp.seq ?_ | refine Wp.reg ?_ | refine Wp.block ?_ | refine Wp.skip ?_ | refine Wp.ret ?_ | refine Wp.exit ?_ | refine Wp.label ?_ | refine Wp.condG ?_) | simp (disch := omega) only [↓RP, RQ, TS, TR, ↓reduceIte, Nat.reduceEqDiff, Nat.reduceLT, Nat.reduceLeDiff, Int.reduceLT, Int.reduceLE, Int.reduceEq, Int.reduceAdd, Int.reduceSub, Int.reduceNeg, Int.reduceToNat, Nat.reduceAdd, Nat.reduceMul, Nat.reduceSub, reduceCtorEq, RC, Int.cast_ofNat_Int, hn, g7, g8, g9, g11, g13, g14, g15, g16, hwd.idx, hwd.ld 0]
    refine condW_split (fun h4 => ?_) (fun h4 => ?_)
    · have hf := filter_at (fun k => decide (0 ≤ d.getD k 0)) N i hiN (decide_eq_true h4)
      repeat first | (with_reducible first | refine Wp.seq ?_ | refine Wp.reg ?_ | refine Wp.block ?_ | refine Wp.skip ?_ | refine Wp.ret ?_ | refine Wp.exit ?_ | refine Wp.label ?_ | refine Wp.condG ?_) | simp (disch := omega) only [↓RP, RQ, TS, TR, ↓reduceIte, Nat.reduceEqDiff, Nat.reduceLT, Nat.reduceLeDiff, Int.reduceLT, Int.reduceLE, Int.reduceEq, Int.reduceAdd, Int.reduceSub, Int.reduceNeg, Int.reduceToNat, Nat.reduceAdd, Nat.reduceMul, Nat.reduceSub, reduceCtorEq, RC, Int.cast_ofNat_Int, hn, g7, g8, g9, g11, g13, g14, g15, g16, hwr.len]
      have hfl : ((List.range i).filter fun k => decide (0 ≤ d.getD k 0)).length ≤ i := by
        have := List.length_filter_le (fun k => decide (0 ≤ d.getD k 0)) (List.range i)
        simpa using this
      generalize hc1 : ((List.range i).filter fun k => decide (0 ≤ d.getD k 0)).length = c1 at hf g14 hfl ⊢
      generalize hc2 : ((List.range N).filter fun k => decide (0 ≤ d.getD k 0)) = c2 at hf hwr ⊢
      refine letG_split' (fun h5 => absurd h5 (by omega)) (fun h5 => ?_)
      have hf2 : (c2.getD c1 0 : Int) = i := by rw [hf.2]
      repeat first | (with_reducible first | refine Wp.seq ?_ | refine Wp.reg ?_ | refine Wp.block ?_ | refine Wp.skip ?_ | refine Wp.ret ?_ | refine Wp.exit ?_ | refine Wp.label ?_ | refine Wp.condG ?_) | simp (disch := omega) only [↓RP, RQ, TS, TR, ↓reduceIte, Nat.reduceEqDiff, Nat.reduceLT, Nat.reduceLeDiff, Int.reduceLT, Int.reduceLE, Int.reduceEq, Int.reduceAdd, Int.reduceSub, Int.reduceNeg, Int.reduceToNat, Nat.reduceAdd, Nat.reduceMul, Nat.reduceSub, reduceCtorEq, RC, Int.cast_ofNat_Int, hn, g7, g8, g9, g11, g13, g14, g15, g16, hwr.len, h5, hwr.idx, hwr.ld 0, hf2, wrap_fit]
      refine ⟨n - 1, by omega, i + 1, by omega, rfl, ?_⟩
      rw [List.range_succ, List.filter_append]
      have e : [i].filter (fun k => decide (0 ≤ d.getD k 0)) = [i] := by simp only [List.filter_cons, List.filter_nil, decide_eq_true h4, if_true]
      rw [e, List.length_append, hc1]
      rfl
    · repeat first | (with_reducible first | refine Wp.seq ?_ | refine Wp.reg ?_ | refine Wp.block ?_ | refine Wp.skip ?_ | refine Wp.ret ?_ | refine Wp.exit ?_ | refine Wp.label ?_ | refine Wp.condG ?_) | simp (disch := omega) only [↓RP, RQ, TS, TR, ↓reduceIte, Nat.reduceEqDiff, Nat.reduceLT, Nat.reduceLeDiff, Int.reduceLT, Int.reduceLE, Int.reduceEq, Int.reduceAdd, Int.reduceSub, Int.reduceNeg, Int.reduceToNat, Nat.reduceAdd, Nat.reduceMul, Nat.reduceSub, reduceCtorEq, RC, Int.cast_ofNat_Int, hn, g7, g8, g9, g11, g13, g14, g15, g16, wrap_fit]
      refine ⟨n - 1, by omega, i + 1, by omega, rfl, ?_⟩
      rw [List.range_succ, List.filter_append]
      have e : [i].filter (fun k => decide (0 ≤ d.getD k 0)) = [] := by simp only [List.filter_cons, List.filter_nil, decide_eq_false h4]; rfl
      rw [e, List.append_nil]
  · have e : i = N := by omega
    subst e
    repeat first | (with_reducible first | refine Wp.seq ?_ | refine Wp.reg ?_ | refine Wp.block ?_ | refine Wp.skip ?_ | refine Wp.ret ?_ | refine Wp.exit ?_ | refine Wp.label ?_ | refine Wp.condG ?_) | simp (disch := omega) only [↓RP, RQ, TS, TR, ↓reduceIte, Nat.reduceEqDiff, Nat.reduceLT, Nat.reduceLeDiff, Int.reduceLT, Int.reduceLE, Int.reduceEq, Int.reduceAdd, Int.reduceSub, Int.reduceNeg, Int.reduceToNat, Nat.reduceAdd, Nat.reduceMul, Nat.reduceSub, reduceCtorEq, RC, Int.cast_ofNat_Int, hn, g7, g8, g9, g11, g13, g14, g15, hwr.len]
end Go.Ds
/-
  The law on Check and errors: its walk.
-/
namespace Go.Ds
open Go.Proofs Go.Plain
variable {H : Heap}

theorem chk_nat {N : Int} {es : List (Int × Int)} (h : chk N es = 0) : ∃ (n : Nat) (es' : List (Nat × Nat)), N = n ∧ es = es'.map (fun e => ((e.1 : Int), (e.2 : Int))) ∧ n ≤ 200 ∧ es'.length ≤ 1000 ∧ ∀ e ∈ es', e.1 < n ∧ e.2 < n := by
  unfold chk at h
  split at h
  · cases h
  split at h
  · cases h
  split at h
  case isFalse => cases h
  rename_i h1 h2 h3
  rw [List.all_eq_true] at h3
  have h4 : ∀ e ∈ es, (0 ≤ e.1 ∧ e.1 < N) ∧ (0 ≤ e.2 ∧ e.2 < N) := fun e he => by
    have := h3 e he
    unfold okE inN at this
    rwa [Bool.and_eq_true, decide_eq_true_eq, decide_eq_true_eq] at this
  refine ⟨N.toNat, es.map fun e => (e.1.toNat, e.2.toNat), by omega, ?_, by omega, by simp; omega, ?_⟩
  · rw [List.map_map]
    conv => lhs; rw [← List.map_id es]
    apply List.map_congr_left
    intro e he
    have := h4 e he
    apply Prod.ext
    · show e.1 = ((e.1.toNat : Nat) : Int); omega
    · show e.2 = ((e.2.toNat : Nat) : Int); omega
  · intro e he
    obtain ⟨x, hx, rfl⟩ := List.mem_map.1 he
    have := h4 x hx
    simp only
    omega

set_option maxRecDepth 100000 in
set_option maxHeartbeats 2000000 in
theorem checks_ok (N x : Int) (v : Value) (es : List (Int × Int)) (hv : EgZ H v es) : Fn Try.prog 11 [.agg #[I N, v], I x] H fun r H' => r = .bool true := by
  refine Fn.of_wp (fn := Try.f11) rfl rfl (by kernel_rfl) fun l hl => ?_
  have hn : l.length = 280 := by rw [hl]; rfl
  have g0 : get l 0 = .agg #[I N, v] := by rw [hl]; rfl
  have g1 : get l 1 = I x := by rw [hl]; rfl
  clear hl
  repeat first | (with_reducible first | refine Wp.seq ?_ | refine Wp.reg ?_ | refine Wp.block ?_ | refine Wp.skip ?_ | refine Wp.ret ?_ | refine Wp.exit ?_ | refine Wp.label ?_ | refine Wp.condG ?_) | simp (disch := omega) only [↓RP, RQ, TS, TR, ↓reduceIte, Nat.reduceEqDiff, Nat.reduceLT, Nat.reduceLeDiff, Int.reduceLT, Int.reduceLE, Int.reduceEq, Int.reduceAdd, Int.reduceSub, Int.reduceNeg, Int.reduceToNat, Nat.reduceAdd, Nat.reduceMul, Nat.reduceSub, reduceCtorEq, RC, Int.cast_ofNat_Int, hn, g0, g1]
  refine (St.refl _ H).eNew 2 [I N, v] rfl rfl (by simp [RdAt.one hv]; rfl) tS27 fun A H1 hS => ?_
  repeat first | (with_reducible first | refine Wp.seq ?_ | refine Wp.reg ?_ | refine Wp.block ?_ | refine Wp.skip ?_ | refine Wp.ret ?_ | refine Wp.exit ?_ | refine Wp.label ?_ | refine Wp.condG ?_) | simp (disch := omega) only [↓RP, RQ, TS, TR, ↓reduceIte, Nat.reduceEqDiff, Nat.reduceLT, Nat.reduceLeDiff, Int.reduceLT, Int.reduceLE, Int.reduceEq, Int.reduceAdd, Int.reduceSub, Int.reduceNeg, Int.reduceToNat, Nat.reduceAdd, Nat.reduceMul, Nat.reduceSub, reduceCtorEq, RC, Int.cast_ofNat_Int, hn, g0, g1]
  refine callFW_of (known_ok _) ?_
  rintro r H2 ⟨rfl, rfl⟩
  have hv0 : Sl2 H2 v _ _ es := hS.base hv
  simp only [List.nil_append, List.cons_append, List.append_nil, List.set_cons_zero, List.set_cons_succ, setMany_cons, setMany_nil, Nat.zero_add, Nat.mul_one, Nat.add_zero] at hS
  by_cases hbig : 8 < es.length ∧ es.length ≠ 1001
  · have d1 : decide ((8 : Int) < (es.length : Int)) = true := decide_eq_true (by omega)
    have d2 : decide (¬ (es.length : Int) = 1001) = true := decide_eq_true (by omega)
    repeat first | (with_reducible first | refine Wp.seq ?_ | refine Wp.reg ?_ | refine Wp.block ?_ | refine Wp.skip ?_ | refine Wp.ret ?_ | refine Wp.exit ?_ | refine Wp.label ?_ | refine Wp.condG ?_) | simp (disch := omega) only [↓RP, RQ, TS, TR, ↓reduceIte, Nat.reduceEqDiff, Nat.reduceLT, Nat.reduceLeDiff, Int.reduceLT, Int.reduceLE, Int.reduceEq, Int.reduceAdd, Int.reduceSub, Int.reduceNeg, Int.reduceToNat, Nat.reduceAdd, Nat.reduceMul, Nat.reduceSub, reduceCtorEq, RC, Int.cast_ofNat_Int, hn, g0, g1, hS.ld 0 rfl, hv0.len, d1, d2]
    refine callFW_of (known_ok _) ?_
    rintro r H1 ⟨rfl, rfl⟩
    repeat first | (with_reducible first | refine Wp.seq ?_ | refine Wp.reg ?_ | refine Wp.block ?_ | refine Wp.skip ?_ | refine Wp.ret ?_ | refine Wp.exit ?_ | refine Wp.label ?_ | refine Wp.condG ?_) | simp (disch := omega) only [↓RP, RQ, TS, TR, ↓reduceIte, Nat.reduceEqDiff, Nat.reduceLT, Nat.reduceLeDiff, Int.reduceLT, Int.reduceLE, Int.reduceEq, Int.reduceAdd, Int.reduceSub, Int.reduceNeg, Int.reduceToNat, Nat.reduceAdd, Nat.reduceMul, Nat.reduceSub, reduceCtorEq, RC, Int.cast_ofNat_Int, hn, g0, g1]
  have hlt : es.length < 1000000 := by omega
  have hpass : (decide ((8 : Int) < (es.length : Int)) = true ∧ decide (¬ (es.length : Int) = 1001) = false) ∨ (decide ((8 : Int) < (es.length : Int)) = false ∧ true = true) := by
    by_cases h8 : 8 < es.length
    · exact .inl ⟨decide_eq_true (by omega), decide_eq_false (by omega)⟩
    · exact .inr ⟨decide_eq_false (by omega), rfl⟩
  rcases hpass with ⟨d1, d2⟩ | ⟨d1, d2⟩
  all_goals
    repeat first | (with_reducible first | refine Wp.seq ?_ | refine Wp.reg ?_ | refine Wp.block ?_ | refine Wp.skip ?_ | refine Wp.ret ?_ | refine Wp.exit ?_ | refine Wp.label ?_ | refine Wp.condG ?_) | simp (disch := omega) only [↓RP, RQ, TS, TR, ↓reduceIte, Nat.reduceEqDiff, Nat.reduceLT, Nat.reduceLeDiff, Int.reduceLT, Int.reduceLE, Int.reduceEq, Int.reduceAdd, Int.reduceSub, Int.reduceNeg, Int.reduceToNat, Nat.reduceAdd, Nat.reduceMul, Nat.reduceSub, reduceCtorEq, RC, Int.cast_ofNat_Int, hn, g0, g1, hS.ld 0 rfl, hv0.len, d1, d2, hS.ldA 0 rfl]
    refine callFW_of (lawCheck_ok N v es (hS.base hv) hlt) ?_
    rintro r H3 ⟨rfl, hS2⟩
    have hS := hS.trans hS2
    simp only [List.nil_append, List.cons_append, List.append_nil, List.set_cons_zero, List.set_cons_succ, setMany_cons, setMany_nil, Nat.zero_add, Nat.mul_one, Nat.add_zero] at hS
    repeat first | (with_reducible first | refine Wp.seq ?_ | refine Wp.reg ?_ | refine Wp.block ?_ | refine Wp.skip ?_ | refine Wp.ret ?_ | refine Wp.exit ?_ | refine Wp.label ?_ | refine Wp.condG ?_) | simp (disch := omega) only [↓RP, RQ, TS, TR, ↓reduceIte, Nat.reduceEqDiff, Nat.reduceLT, Nat.reduceLeDiff, Int.reduceLT, Int.reduceLE, Int.reduceEq, Int.reduceAdd, Int.reduceSub, Int.reduceNeg, Int.reduceToNat, Nat.reduceAdd, Nat.reduceMul, Nat.reduceSub, reduceCtorEq, RC, Int.cast_ofNat_Int, hn, g0, g1, hS.ldA 0 rfl]
    refine callFW_of (checkZ_ok N v es (hS.base hv) hlt) ?_
    rintro r H4 ⟨rfl, hS2⟩
    have hS := hS.trans hS2
    simp only [List.nil_append, List.cons_append, List.append_nil, List.set_cons_zero, List.set_cons_succ, setMany_cons, setMany_nil, Nat.zero_add, Nat.mul_one, Nat.add_zero] at hS
    by_cases hc : chk N es = 0
    · have hX : chk2 N es [x] = if inN N x = true then 0 else 10 := by unfold chk2; rw [if_neg (by omega)]; simp
      have hXX : chk2 N es [x, x] = if inN N x = true then 0 else 10 := by unfold chk2; rw [if_neg (by omega)]; simp
      have hc0 := hc
      rw [hc]
      by_cases hin : 0 ≤ x ∧ x < N
      · obtain ⟨n, es', rfl, rfl, hN, he, hval⟩ := chk_nat hc0
        obtain ⟨m, rfl⟩ : ∃ m : Nat, x = m := ⟨x.toNat, by omega⟩
        have hm : m < n := by omega
        have hE : Eg H v es' := by
          have h := hv
          unfold EgZ Sl2 at h
          rw [List.flatMap_map] at h
          exact h
        repeat first | (with_reducible first | refine Wp.seq ?_ | refine Wp.reg ?_ | refine Wp.block ?_ | refine Wp.skip ?_ | refine Wp.ret ?_ | refine Wp.exit ?_ | refine Wp.label ?_ | refine Wp.condG ?_) | simp (disch := omega) only [↓RP, RQ, TS, TR, ↓reduceIte, Nat.reduceEqDiff, Nat.reduceLT, Nat.reduceLeDiff, Int.reduceLT, Int.reduceLE, Int.reduceEq, Int.reduceAdd, Int.reduceSub, Int.reduceNeg, Int.reduceToNat, Nat.reduceAdd, Nat.reduceMul, Nat.reduceSub, reduceCtorEq, RC, Int.cast_ofNat_Int, hn, g0, g1, hS.ldA 0 rfl]
        refine callFW_of (path_ok n v es' (hS.base hE) hN he hval m m hm hm) ?_
        rintro r H5 ⟨d, wp, hd, hdN, rfl, hS2⟩
        have h0 : d.getD m 0 = 0 := hd.self hm
        rw [h0, if_pos (Int.le_refl _)] at hS2
        have e1 : decide (0 ≤ d.getD m 0) = true := decide_eq_true (by omega)
        rw [e1]
        have hS := hS.trans hS2
        simp only [List.nil_append, List.cons_append, List.append_nil, List.set_cons_zero, List.set_cons_succ, setMany_cons, setMany_nil, Nat.zero_add, Nat.mul_one, Nat.add_zero] at hS
        repeat first | (with_reducible first | refine Wp.seq ?_ | refine Wp.reg ?_ | refine Wp.block ?_ | refine Wp.skip ?_ | refine Wp.ret ?_ | refine Wp.exit ?_ | refine Wp.label ?_ | refine Wp.condG ?_) | simp (disch := omega) only [↓RP, RQ, TS, TR, ↓reduceIte, Nat.reduceEqDiff, Nat.reduceLT, Nat.reduceLeDiff, Int.reduceLT, Int.reduceLE, Int.reduceEq, Int.reduceAdd, Int.reduceSub, Int.reduceNeg, Int.reduceToNat, Nat.reduceAdd, Nat.reduceMul, Nat.reduceSub, reduceCtorEq, RC, Int.cast_ofNat_Int, hn, g0, g1, hS.ldA 0 rfl]
        refine callFW_of (reach_ok n v es' (hS.base hE) hN he hval m hm) ?_
        rintro r H6 ⟨d2', wr, rfl, hd2, hS2⟩
        have hS := hS.trans hS2
        simp only [List.nil_append, List.cons_append, List.append_nil, List.set_cons_zero, List.set_cons_succ, setMany_cons, setMany_nil, Nat.zero_add, Nat.mul_one, Nat.add_zero] at hS
        repeat first | (with_reducible first | refine Wp.seq ?_ | refine Wp.reg ?_ | refine Wp.block ?_ | refine Wp.skip ?_ | refine Wp.ret ?_ | refine Wp.exit ?_ | refine Wp.label ?_ | refine Wp.condG ?_) | simp (disch := omega) only [↓RP, RQ, TS, TR, ↓reduceIte, Nat.reduceEqDiff, Nat.reduceLT, Nat.reduceLeDiff, Int.reduceLT, Int.reduceLE, Int.reduceEq, Int.reduceAdd, Int.reduceSub, Int.reduceNeg, Int.reduceToNat, Nat.reduceAdd, Nat.reduceMul, Nat.reduceSub, reduceCtorEq, RC, Int.cast_ofNat_Int, hn, g0, g1, hS.ldA 0 rfl]
        refine callFW_of (distance_ok n v es' (hS.base hE) hN he hval m hm) ?_
        rintro r H7 ⟨d3, wd, rfl, hd3, hS2⟩
        have hS := hS.trans hS2
        simp only [List.nil_append, List.cons_append, List.append_nil, List.set_cons_zero, List.set_cons_succ, setMany_cons, setMany_nil, Nat.zero_add, Nat.mul_one, Nat.add_zero] at hS
        have hwp : Sl1 H7 wp (fun n : Nat => I n) [] := hS.rd 1 rfl
        have hwd : Sl1 H7 wd (.int .i64) d3 := hS.rd 3 rfl
        have hdl := hd3.len
        have f1 : decide ((0 : Int) ≤ (m : Int)) = true := decide_eq_true (by omega)
        have f2 : decide ((m : Int) < (n : Int)) = true := decide_eq_true (by omega)
        have f3 : decide ((d3.length : Int) = (n : Int)) = true := decide_eq_true (by omega)
        repeat first | (with_reducible first | refine Wp.seq ?_ | refine Wp.reg ?_ | refine Wp.block ?_ | refine Wp.skip ?_ | refine Wp.ret ?_ | refine Wp.exit ?_ | refine Wp.label ?_ | refine Wp.condG ?_) | simp (disch := omega) only [↓RP, RQ, TS, TR, ↓reduceIte, Nat.reduceEqDiff, Nat.reduceLT, Nat.reduceLeDiff, Int.reduceLT, Int.reduceLE, Int.reduceEq, Int.reduceAdd, Int.reduceSub, Int.reduceNeg, Int.reduceToNat, Nat.reduceAdd, Nat.reduceMul, Nat.reduceSub, reduceCtorEq, RC, Int.cast_ofNat_Int, hn, g0, g1, hS.ld 0 rfl, f1, f2, hwp.len, hwd.len, f3]
      · have hb : inN N x = false := decide_eq_false hin
        rw [hb, if_neg (by decide)] at hX hXX
        repeat first | (with_reducible first | refine Wp.seq ?_ | refine Wp.reg ?_ | refine Wp.block ?_ | refine Wp.skip ?_ | refine Wp.ret ?_ | refine Wp.exit ?_ | refine Wp.label ?_ | refine Wp.condG ?_) | simp (disch := omega) only [↓RP, RQ, TS, TR, ↓reduceIte, Nat.reduceEqDiff, Nat.reduceLT, Nat.reduceLeDiff, Int.reduceLT, Int.reduceLE, Int.reduceEq, Int.reduceAdd, Int.reduceSub, Int.reduceNeg, Int.reduceToNat, Nat.reduceAdd, Nat.reduceMul, Nat.reduceSub, reduceCtorEq, RC, Int.cast_ofNat_Int, hn, g0, g1, hS.ldA 0 rfl]
        refine callFW_of (pathZ_ok N v es (hS.base hv) hlt x x (by rw [hXX]; decide)) ?_
        rintro r H5 ⟨rfl, hS2⟩
        have hS := hS.trans hS2
        simp only [List.nil_append, List.cons_append, List.append_nil, List.set_cons_zero, List.set_cons_succ, setMany_cons, setMany_nil, Nat.zero_add, Nat.mul_one, Nat.add_zero] at hS
        repeat first | (with_reducible first | refine Wp.seq ?_ | refine Wp.reg ?_ | refine Wp.block ?_ | refine Wp.skip ?_ | refine Wp.ret ?_ | refine Wp.exit ?_ | refine Wp.label ?_ | refine Wp.condG ?_) | simp (disch := omega) only [↓RP, RQ, TS, TR, ↓reduceIte, Nat.reduceEqDiff, Nat.reduceLT, Nat.reduceLeDiff, Int.reduceLT, Int.reduceLE, Int.reduceEq, Int.reduceAdd, Int.reduceSub, Int.reduceNeg, Int.reduceToNat, Nat.reduceAdd, Nat.reduceMul, Nat.reduceSub, reduceCtorEq, RC, Int.cast_ofNat_Int, hn, g0, g1, hS.ldA 0 rfl]
        refine callFW_of (reachZ_ok N v es (hS.base hv) hlt x (by rw [hX]; decide)) ?_
        rintro r H6 ⟨rfl, hS2⟩
        have hS := hS.trans hS2
        simp only [List.nil_append, List.cons_append, List.append_nil, List.set_cons_zero, List.set_cons_succ, setMany_cons, setMany_nil, Nat.zero_add, Nat.mul_one, Nat.add_zero] at hS
        repeat first | (with_reducible first | refine Wp.seq ?_ | refine Wp.reg ?_ | refine Wp.block ?_ | refine Wp.skip ?_ | refine Wp.ret ?_ | refine Wp.exit ?_ | refine Wp.label ?_ | refine Wp.condG ?_) | simp (disch := omega) only [↓RP, RQ, TS, TR, ↓reduceIte, Nat.reduceEqDiff, Nat.reduceLT, Nat.reduceLeDiff, Int.reduceLT, Int.reduceLE, Int.reduceEq, Int.reduceAdd, Int.reduceSub, Int.reduceNeg, Int.reduceToNat, Nat.reduceAdd, Nat.reduceMul, Nat.reduceSub, reduceCtorEq, RC, Int.cast_ofNat_Int, hn, g0, g1, hS.ldA 0 rfl]
        refine callFW_of (distanceZ_ok N v es (hS.base hv) hlt x (by rw [hX]; decide)) ?_
        rintro r H7 ⟨rfl, hS2⟩
        have hS := hS.trans hS2
        have hS := hS.nil 0
        simp only [List.nil_append, List.cons_append, List.append_nil, List.set_cons_zero, List.set_cons_succ, setMany_cons, setMany_nil, Nat.zero_add, Nat.mul_one, Nat.add_zero] at hS
        rw [hX, hXX]
        have hnil : Sl1 H7 (.slice none 0 0) (fun n : Nat => I n) [] := hS.rd 1 rfl
        by_cases hx0 : 0 ≤ x
        · repeat first | (with_reducible first | refine Wp.seq ?_ | refine Wp.reg ?_ | refine Wp.block ?_ | refine Wp.skip ?_ | refine Wp.ret ?_ | refine Wp.exit ?_ | refine Wp.label ?_ | refine Wp.condG ?_) | simp (disch := omega) only [↓RP, RQ, TS, TR, ↓reduceIte, Nat.reduceEqDiff, Nat.reduceLT, Nat.reduceLeDiff, Int.reduceLT, Int.reduceLE, Int.reduceEq, Int.reduceAdd, Int.reduceSub, Int.reduceNeg, Int.reduceToNat, Nat.reduceAdd, Nat.reduceMul, Nat.reduceSub, reduceCtorEq, RC, Int.cast_ofNat_Int, hn, g0, g1, hS.ld 0 rfl, hnil.len, decide_eq_true hx0, decide_eq_false (show ¬ x < N from fun hh => hin ⟨hx0, hh⟩), wrap_fit]
        · repeat first | (with_reducible first | refine Wp.seq ?_ | refine Wp.reg ?_ | refine Wp.block ?_ | refine Wp.skip ?_ | refine Wp.ret ?_ | refine Wp.exit ?_ | refine Wp.label ?_ | refine Wp.condG ?_) | simp (disch := omega) only [↓RP, RQ, TS, TR, ↓reduceIte, Nat.reduceEqDiff, Nat.reduceLT, Nat.reduceLeDiff, Int.reduceLT, Int.reduceLE, Int.reduceEq, Int.reduceAdd, Int.reduceSub, Int.reduceNeg, Int.reduceToNat, Nat.reduceAdd, Nat.reduceMul, Nat.reduceSub, reduceCtorEq, RC, Int.cast_ofNat_Int, hn, g0, g1, hS.ld 0 rfl, hnil.len, decide_eq_false hx0, wrap_fit]
    · have hX : chk2 N es [x] = chk N es := by unfold chk2; rw [if_pos hc]
      have hXX : chk2 N es [x, x] = chk N es := by unfold chk2; rw [if_pos hc]
      repeat first | (with_reducible first | refine Wp.seq ?_ | refine Wp.reg ?_ | refine Wp.block ?_ | refine Wp.skip ?_ | refine Wp.ret ?_ | refine Wp.exit ?_ | refine Wp.label ?_ | refine Wp.condG ?_) | simp (disch := omega) only [↓RP, RQ, TS, TR, ↓reduceIte, Nat.reduceEqDiff, Nat.reduceLT, Nat.reduceLeDiff, Int.reduceLT, Int.reduceLE, Int.reduceEq, Int.reduceAdd, Int.reduceSub, Int.reduceNeg, Int.reduceToNat, Nat.reduceAdd, Nat.reduceMul, Nat.reduceSub, reduceCtorEq, RC, Int.cast_ofNat_Int, hn, g0, g1, hS.ldA 0 rfl]
      refine callFW_of (pathZ_ok N v es (hS.base hv) hlt x x (by rw [hXX]; exact hc)) ?_
      rintro r H5 ⟨rfl, hS2⟩
      have hS := hS.trans hS2
      simp only [List.nil_append, List.cons_append, List.append_nil, List.set_cons_zero, List.set_cons_succ, setMany_cons, setMany_nil, Nat.zero_add, Nat.mul_one, Nat.add_zero] at hS
      repeat first | (with_reducible first | refine Wp.seq ?_ | refine Wp.reg ?_ | refine Wp.block ?_ | refine Wp.skip ?_ | refine Wp.ret ?_ | refine Wp.exit ?_ | refine Wp.label ?_ | refine Wp.condG ?_) | simp (disch := omega) only [↓RP, RQ, TS, TR, ↓reduceIte, Nat.reduceEqDiff, Nat.reduceLT, Nat.reduceLeDiff, Int.reduceLT, Int.reduceLE, Int.reduceEq, Int.reduceAdd, Int.reduceSub, Int.reduceNeg, Int.reduceToNat, Nat.reduceAdd, Nat.reduceMul, Nat.reduceSub, reduceCtorEq, RC, Int.cast_ofNat_Int, hn, g0, g1, hS.ldA 0 rfl]
      refine callFW_of (reachZ_ok N v es (hS.base hv) hlt x (by rw [hX]; exact hc)) ?_
      rintro r H6 ⟨rfl, hS2⟩
      have hS := hS.trans hS2
      simp only [List.nil_append, List.cons_append, List.append_nil, List.set_cons_zero, List.set_cons_succ, setMany_cons, setMany_nil, Nat.zero_add, Nat.mul_one, Nat.add_zero] at hS
      repeat first | (with_reducible first | refine Wp.seq ?_ | refine Wp.reg ?_ | refine Wp.block ?_ | refine Wp.skip ?_ | refine Wp.ret ?_ | refine Wp.exit ?_ | refine Wp.label ?_ | refine Wp.condG ?_) | simp (disch := omega) only [↓RP, RQ, TS, TR, ↓reduceIte, Nat.reduceEqDiff, Nat.reduceLT, Nat.reduceLeDiff, Int.reduceLT, Int.reduceLE, Int.reduceEq, Int.reduceAdd, Int.reduceSub, Int.reduceNeg, Int.reduceToNat, Nat.reduceAdd, Nat.reduceMul, Nat.reduceSub, reduceCtorEq, RC, Int.cast_ofNat_Int, hn, g0, g1, hS.ldA 0 rfl]
      refine callFW_of (distanceZ_ok N v es (hS.base hv) hlt x (by rw [hX]; exact hc)) ?_
      rintro r H7 ⟨rfl, hS2⟩
      have hS := hS.trans hS2
      simp only [List.nil_append, List.cons_append, List.append_nil, List.set_cons_zero, List.set_cons_succ, setMany_cons, setMany_nil, Nat.zero_add, Nat.mul_one, Nat.add_zero] at hS
      rw [hX, hXX]
      have f0 : decide (chk N es = 0) = false := decide_eq_false hc
      repeat first | (with_reducible first | refine Wp.seq ?_ | refine Wp.reg ?_ | refine Wp.block ?_ | refine Wp.skip ?_ | refine Wp.ret ?_ | refine Wp.exit ?_ | refine Wp.label ?_ | refine Wp.condG ?_) | simp (disch := omega) only [↓RP, RQ, TS, TR, ↓reduceIte, Nat.reduceEqDiff, Nat.reduceLT, Nat.reduceLeDiff, Int.reduceLT, Int.reduceLE, Int.reduceEq, Int.reduceAdd, Int.reduceSub, Int.reduceNeg, Int.reduceToNat, Nat.reduceAdd, Nat.reduceMul, Nat.reduceSub, reduceCtorEq, RC, Int.cast_ofNat_Int, hn, g0, g1, f0, hS.ldA 0 rfl]
      refine callFW_of (cycleZ_ok N v es (hS.base hv) hlt hc) ?_
      rintro r H8 ⟨rfl, hS2⟩
      have hS := hS.trans hS2
      simp only [List.nil_append, List.cons_append, List.append_nil, List.set_cons_zero, List.set_cons_succ, setMany_cons, setMany_nil, Nat.zero_add, Nat.mul_one, Nat.add_zero] at hS
      repeat first | (with_reducible first | refine Wp.seq ?_ | refine Wp.reg ?_ | refine Wp.block ?_ | refine Wp.skip ?_ | refine Wp.ret ?_ | refine Wp.exit ?_ | refine Wp.label ?_ | refine Wp.condG ?_) | simp (disch := omega) only [↓RP, RQ, TS, TR, ↓reduceIte, Nat.reduceEqDiff, Nat.reduceLT, Nat.reduceLeDiff, Int.reduceLT, Int.reduceLE, Int.reduceEq, Int.reduceAdd, Int.reduceSub, Int.reduceNeg, Int.reduceToNat, Nat.reduceAdd, Nat.reduceMul, Nat.reduceSub, reduceCtorEq, RC, Int.cast_ofNat_Int, hn, g0, g1, hS.ldA 0 rfl]
      refine callFW_of (componentsZ_ok N v es (hS.base hv) hlt hc) ?_
      rintro r H9 ⟨rfl, hS2⟩
      have hS := hS.trans hS2
      simp only [List.nil_append, List.cons_append, List.append_nil, List.set_cons_zero, List.set_cons_succ, setMany_cons, setMany_nil, Nat.zero_add, Nat.mul_one, Nat.add_zero] at hS
      repeat first | (with_reducible first | refine Wp.seq ?_ | refine Wp.reg ?_ | refine Wp.block ?_ | refine Wp.skip ?_ | refine Wp.ret ?_ | refine Wp.exit ?_ | refine Wp.label ?_ | refine Wp.condG ?_) | simp (disch := omega) only [↓RP, RQ, TS, TR, ↓reduceIte, Nat.reduceEqDiff, Nat.reduceLT, Nat.reduceLeDiff, Int.reduceLT, Int.reduceLE, Int.reduceEq, Int.reduceAdd, Int.reduceSub, Int.reduceNeg, Int.reduceToNat, Nat.reduceAdd, Nat.reduceMul, Nat.reduceSub, reduceCtorEq, RC, Int.cast_ofNat_Int, hn, g0, g1, hS.ldA 0 rfl]
      refine callFW_of (condenseZ_ok N v es (hS.base hv) hlt hc) ?_
      rintro r H10 ⟨rfl, hS2⟩
      have hS := hS.trans hS2
      simp only [List.nil_append, List.cons_append, List.append_nil, List.set_cons_zero, List.set_cons_succ, setMany_cons, setMany_nil, Nat.zero_add, Nat.mul_one, Nat.add_zero] at hS
      repeat first | (with_reducible first | refine Wp.seq ?_ | refine Wp.reg ?_ | refine Wp.block ?_ | refine Wp.skip ?_ | refine Wp.ret ?_ | refine Wp.exit ?_ | refine Wp.label ?_ | refine Wp.condG ?_) | simp (disch := omega) only [↓RP, RQ, TS, TR, ↓reduceIte, Nat.reduceEqDiff, Nat.reduceLT, Nat.reduceLeDiff, Int.reduceLT, Int.reduceLE, Int.reduceEq, Int.reduceAdd, Int.reduceSub, Int.reduceNeg, Int.reduceToNat, Nat.reduceAdd, Nat.reduceMul, Nat.reduceSub, reduceCtorEq, RC, Int.cast_ofNat_Int, hn, g0, g1]
      refine hS.eNew 2 [I 0, .slice none 0 0] rfl rfl rfl tS27 fun B1 H11 hS => ?_
      repeat first | (with_reducible first | refine Wp.seq ?_ | refine Wp.reg ?_ | refine Wp.block ?_ | refine Wp.skip ?_ | refine Wp.ret ?_ | refine Wp.exit ?_ | refine Wp.label ?_ | refine Wp.condG ?_) | simp (disch := omega) only [↓RP, RQ, TS, TR, ↓reduceIte, Nat.reduceEqDiff, Nat.reduceLT, Nat.reduceLeDiff, Int.reduceLT, Int.reduceLE, Int.reduceEq, Int.reduceAdd, Int.reduceSub, Int.reduceNeg, Int.reduceToNat, Nat.reduceAdd, Nat.reduceMul, Nat.reduceSub, reduceCtorEq, RC, Int.cast_ofNat_Int, hn, g0, g1]
      refine hS.eStore 1 rfl [I 0, .slice none 0 0] rfl rfl tS27 (by simp) fun H12 hS => ?_
      simp only [List.nil_append, List.cons_append, List.append_nil, List.set_cons_zero, List.set_cons_succ, setMany_cons, setMany_nil, Nat.zero_add, Nat.mul_one, Nat.add_zero] at hS
      repeat first | (with_reducible first | refine Wp.seq ?_ | refine Wp.reg ?_ | refine Wp.block ?_ | refine Wp.skip ?_ | refine Wp.ret ?_ | refine Wp.exit ?_ | refine Wp.label ?_ | refine Wp.condG ?_) | simp (disch := omega) only [↓RP, RQ, TS, TR, ↓reduceIte, Nat.reduceEqDiff, Nat.reduceLT, Nat.reduceLeDiff, Int.reduceLT, Int.reduceLE, Int.reduceEq, Int.reduceAdd, Int.reduceSub, Int.reduceNeg, Int.reduceToNat, Nat.reduceAdd, Nat.reduceMul, Nat.reduceSub, reduceCtorEq, RC, Int.cast_ofNat_Int, hn, g0, g1, hS.ldA 0 rfl]
      refine callFW_of (orderZ_ok N v es (hS.base hv) hlt hc) ?_
      rintro r H13 ⟨rfl, hS2⟩
      have hS := hS.trans hS2
      simp only [List.nil_append, List.cons_append, List.append_nil, List.set_cons_zero, List.set_cons_succ, setMany_cons, setMany_nil, Nat.zero_add, Nat.mul_one, Nat.add_zero] at hS
      repeat first | (with_reducible first | refine Wp.seq ?_ | refine Wp.reg ?_ | refine Wp.block ?_ | refine Wp.skip ?_ | refine Wp.ret ?_ | refine Wp.exit ?_ | refine Wp.label ?_ | refine Wp.condG ?_) | simp (disch := omega) only [↓RP, RQ, TS, TR, ↓reduceIte, Nat.reduceEqDiff, Nat.reduceLT, Nat.reduceLeDiff, Int.reduceLT, Int.reduceLE, Int.reduceEq, Int.reduceAdd, Int.reduceSub, Int.reduceNeg, Int.reduceToNat, Nat.reduceAdd, Nat.reduceMul, Nat.reduceSub, reduceCtorEq, RC, Int.cast_ofNat_Int, hn, g0, g1, hS.ldA 0 rfl]
      refine callFW_of (longestZ_ok N v es (hS.base hv) hlt hc) ?_
      rintro r H14 ⟨rfl, hS2⟩
      have hS := hS.trans hS2
      simp only [List.nil_append, List.cons_append, List.append_nil, List.set_cons_zero, List.set_cons_succ, setMany_cons, setMany_nil, Nat.zero_add, Nat.mul_one, Nat.add_zero] at hS
      repeat first | (with_reducible first | refine Wp.seq ?_ | refine Wp.reg ?_ | refine Wp.block ?_ | refine Wp.skip ?_ | refine Wp.ret ?_ | refine Wp.exit ?_ | refine Wp.label ?_ | refine Wp.condG ?_) | simp (disch := omega) only [↓RP, RQ, TS, TR, ↓reduceIte, Nat.reduceEqDiff, Nat.reduceLT, Nat.reduceLeDiff, Int.reduceLT, Int.reduceLE, Int.reduceEq, Int.reduceAdd, Int.reduceSub, Int.reduceNeg, Int.reduceToNat, Nat.reduceAdd, Nat.reduceMul, Nat.reduceSub, reduceCtorEq, RC, Int.cast_ofNat_Int, hn, g0, g1, hS.ldA 0 rfl]
      refine callFW_of (reverseZ_ok N v es (hS.base hv) hlt hc) ?_
      rintro r H15 ⟨rfl, hS2⟩
      have hS := hS.trans hS2
      simp only [List.nil_append, List.cons_append, List.append_nil, List.set_cons_zero, List.set_cons_succ, setMany_cons, setMany_nil, Nat.zero_add, Nat.mul_one, Nat.add_zero] at hS
      repeat first | (with_reducible first | refine Wp.seq ?_ | refine Wp.reg ?_ | refine Wp.block ?_ | refine Wp.skip ?_ | refine Wp.ret ?_ | refine Wp.exit ?_ | refine Wp.label ?_ | refine Wp.condG ?_) | simp (disch := omega) only [↓RP, RQ, TS, TR, ↓reduceIte, Nat.reduceEqDiff, Nat.reduceLT, Nat.reduceLeDiff, Int.reduceLT, Int.reduceLE, Int.reduceEq, Int.reduceAdd, Int.reduceSub, Int.reduceNeg, Int.reduceToNat, Nat.reduceAdd, Nat.reduceMul, Nat.reduceSub, reduceCtorEq, RC, Int.cast_ofNat_Int, hn, g0, g1]
      refine hS.eNew 2 [I 0, .slice none 0 0] rfl rfl rfl tS27 fun B2 H16 hS => ?_
      repeat first | (with_reducible first | refine Wp.seq ?_ | refine Wp.reg ?_ | refine Wp.block ?_ | refine Wp.skip ?_ | refine Wp.ret ?_ | refine Wp.exit ?_ | refine Wp.label ?_ | refine Wp.condG ?_) | simp (disch := omega) only [↓RP, RQ, TS, TR, ↓reduceIte, Nat.reduceEqDiff, Nat.reduceLT, Nat.reduceLeDiff, Int.reduceLT, Int.reduceLE, Int.reduceEq, Int.reduceAdd, Int.reduceSub, Int.reduceNeg, Int.reduceToNat, Nat.reduceAdd, Nat.reduceMul, Nat.reduceSub, reduceCtorEq, RC, Int.cast_ofNat_Int, hn, g0, g1]
      refine hS.eStore 2 rfl [I 0, .slice none 0 0] rfl rfl tS27 (by simp) fun H17 hS => ?_
      simp only [List.nil_append, List.cons_append, List.append_nil, List.set_cons_zero, List.set_cons_succ, setMany_cons, setMany_nil, Nat.zero_add, Nat.mul_one, Nat.add_zero] at hS
      repeat first | (with_reducible first | refine Wp.seq ?_ | refine Wp.reg ?_ | refine Wp.block ?_ | refine Wp.skip ?_ | refine Wp.ret ?_ | refine Wp.exit ?_ | refine Wp.label ?_ | refine Wp.condG ?_) | simp (disch := omega) only [↓RP, RQ, TS, TR, ↓reduceIte, Nat.reduceEqDiff, Nat.reduceLT, Nat.reduceLeDiff, Int.reduceLT, Int.reduceLE, Int.reduceEq, Int.reduceAdd, Int.reduceSub, Int.reduceNeg, Int.reduceToNat, Nat.reduceAdd, Nat.reduceMul, Nat.reduceSub, reduceCtorEq, RC, Int.cast_ofNat_Int, hn, g0, g1, hS.ldA 0 rfl]
      refine callFW_of (closureZ_ok N v es (hS.base hv) hlt hc) ?_
      rintro r H18 ⟨rfl, hS2⟩
      have hS := hS.trans hS2
      simp only [List.nil_append, List.cons_append, List.append_nil, List.set_cons_zero, List.set_cons_succ, setMany_cons, setMany_nil, Nat.zero_add, Nat.mul_one, Nat.add_zero] at hS
      repeat first | (with_reducible first | refine Wp.seq ?_ | refine Wp.reg ?_ | refine Wp.block ?_ | refine Wp.skip ?_ | refine Wp.ret ?_ | refine Wp.exit ?_ | refine Wp.label ?_ | refine Wp.condG ?_) | simp (disch := omega) only [↓RP, RQ, TS, TR, ↓reduceIte, Nat.reduceEqDiff, Nat.reduceLT, Nat.reduceLeDiff, Int.reduceLT, Int.reduceLE, Int.reduceEq, Int.reduceAdd, Int.reduceSub, Int.reduceNeg, Int.reduceToNat, Nat.reduceAdd, Nat.reduceMul, Nat.reduceSub, reduceCtorEq, RC, Int.cast_ofNat_Int, hn, g0, g1]
      refine hS.eNew 2 [I 0, .slice none 0 0] rfl rfl rfl tS27 fun B3 H19 hS => ?_
      repeat first | (with_reducible first | refine Wp.seq ?_ | refine Wp.reg ?_ | refine Wp.block ?_ | refine Wp.skip ?_ | refine Wp.ret ?_ | refine Wp.exit ?_ | refine Wp.label ?_ | refine Wp.condG ?_) | simp (disch := omega) only [↓RP, RQ, TS, TR, ↓reduceIte, Nat.reduceEqDiff, Nat.reduceLT, Nat.reduceLeDiff, Int.reduceLT, Int.reduceLE, Int.reduceEq, Int.reduceAdd, Int.reduceSub, Int.reduceNeg, Int.reduceToNat, Nat.reduceAdd, Nat.reduceMul, Nat.reduceSub, reduceCtorEq, RC, Int.cast_ofNat_Int, hn, g0, g1]
      refine hS.eStore 3 rfl [I 0, .slice none 0 0] rfl rfl tS27 (by simp) fun H20 hS => ?_
      simp only [List.nil_append, List.cons_append, List.append_nil, List.set_cons_zero, List.set_cons_succ, setMany_cons, setMany_nil, Nat.zero_add, Nat.mul_one, Nat.add_zero] at hS
      repeat first | (with_reducible first | refine Wp.seq ?_ | refine Wp.reg ?_ | refine Wp.block ?_ | refine Wp.skip ?_ | refine Wp.ret ?_ | refine Wp.exit ?_ | refine Wp.label ?_ | refine Wp.condG ?_) | simp (disch := omega) only [↓RP, RQ, TS, TR, ↓reduceIte, Nat.reduceEqDiff, Nat.reduceLT, Nat.reduceLeDiff, Int.reduceLT, Int.reduceLE, Int.reduceEq, Int.reduceAdd, Int.reduceSub, Int.reduceNeg, Int.reduceToNat, Nat.reduceAdd, Nat.reduceMul, Nat.reduceSub, reduceCtorEq, RC, Int.cast_ofNat_Int, hn, g0, g1, hS.ldA 0 rfl]
      refine callFW_of (neededZ_ok N v es (hS.base hv) hlt hc) ?_
      rintro r H21 ⟨rfl, hS2⟩
      have hS := (hS.trans hS2).nil 0
      simp only [List.nil_append, List.cons_append, List.append_nil, List.set_cons_zero, List.set_cons_succ, setMany_cons, setMany_nil, Nat.zero_add, Nat.mul_one, Nat.add_zero] at hS
      have hnil : Sl1 H21 (.slice none 0 0) (fun n : Nat => I n) [] := hS.rd 4 rfl
      generalize chk N es = e at hc ⊢
      have f1 : decide (e = e) = true := decide_eq_true rfl
      simp (disch := omega) only [↓RP, RQ, TS, TR, ↓reduceIte, Nat.reduceEqDiff, Nat.reduceLT, Nat.reduceLeDiff, Int.reduceLT, Int.reduceLE, Int.reduceEq, Int.reduceAdd, Int.reduceSub, Int.reduceNeg, Int.reduceToNat, Nat.reduceAdd, Nat.reduceMul, Nat.reduceSub, reduceCtorEq, RC, Int.cast_ofNat_Int, hn, g0, g1]
      refine Wp.slots fun l' hl' => ?_
      have hn' : l'.length = 280 := by rw [hl']; simp (disch := omega) only [↓RP, RQ, TS, TR, ↓reduceIte, Nat.reduceEqDiff, Nat.reduceLT, Nat.reduceLeDiff, Int.reduceLT, Int.reduceLE, Int.reduceEq, Int.reduceAdd, Int.reduceSub, Int.reduceNeg, Int.reduceToNat, Nat.reduceAdd, Nat.reduceMul, Nat.reduceSub, reduceCtorEq, RC, Int.cast_ofNat_Int, hn]
      have k5 : get l' 5 = I e := by rw [hl']; simp (disch := omega) only [↓RP, RQ, TS, TR, ↓reduceIte, Nat.reduceEqDiff, Nat.reduceLT, Nat.reduceLeDiff, Int.reduceLT, Int.reduceLE, Int.reduceEq, Int.reduceAdd, Int.reduceSub, Int.reduceNeg, Int.reduceToNat, Nat.reduceAdd, Nat.reduceMul, Nat.reduceSub, reduceCtorEq, RC, Int.cast_ofNat_Int, hn]
      have k7 : get l' 7 = .bool false := by rw [hl']; simp (disch := omega) only [↓RP, RQ, TS, TR, ↓reduceIte, Nat.reduceEqDiff, Nat.reduceLT, Nat.reduceLeDiff, Int.reduceLT, Int.reduceLE, Int.reduceEq, Int.reduceAdd, Int.reduceSub, Int.reduceNeg, Int.reduceToNat, Nat.reduceAdd, Nat.reduceMul, Nat.reduceSub, reduceCtorEq, RC, Int.cast_ofNat_Int, hn]
      have k14 : get l' 14 = .bool false := by rw [hl']; simp (disch := omega) only [↓RP, RQ, TS, TR, ↓reduceIte, Nat.reduceEqDiff, Nat.reduceLT, Nat.reduceLeDiff, Int.reduceLT, Int.reduceLE, Int.reduceEq, Int.reduceAdd, Int.reduceSub, Int.reduceNeg, Int.reduceToNat, Nat.reduceAdd, Nat.reduceMul, Nat.reduceSub, reduceCtorEq, RC, Int.cast_ofNat_Int, hn]
      have k18 : get l' 18 = ptr B1 0 2 := by rw [hl']; simp (disch := omega) only [↓RP, RQ, TS, TR, ↓reduceIte, Nat.reduceEqDiff, Nat.reduceLT, Nat.reduceLeDiff, Int.reduceLT, Int.reduceLE, Int.reduceEq, Int.reduceAdd, Int.reduceSub, Int.reduceNeg, Int.reduceToNat, Nat.reduceAdd, Nat.reduceMul, Nat.reduceSub, reduceCtorEq, RC, Int.cast_ofNat_Int, hn]
      have k24 : get l' 24 = ptr B2 0 2 := by rw [hl']; simp (disch := omega) only [↓RP, RQ, TS, TR, ↓reduceIte, Nat.reduceEqDiff, Nat.reduceLT, Nat.reduceLeDiff, Int.reduceLT, Int.reduceLE, Int.reduceEq, Int.reduceAdd, Int.reduceSub, Int.reduceNeg, Int.reduceToNat, Nat.reduceAdd, Nat.reduceMul, Nat.reduceSub, reduceCtorEq, RC, Int.cast_ofNat_Int, hn]
      have k26 : get l' 26 = ptr B3 0 2 := by rw [hl']; simp (disch := omega) only [↓RP, RQ, TS, TR, ↓reduceIte, Nat.reduceEqDiff, Nat.reduceLT, Nat.reduceLeDiff, Int.reduceLT, Int.reduceLE, Int.reduceEq, Int.reduceAdd, Int.reduceSub, Int.reduceNeg, Int.reduceToNat, Nat.reduceAdd, Nat.reduceMul, Nat.reduceSub, reduceCtorEq, RC, Int.cast_ofNat_Int, hn]
      have k6 : get l' 6 = .slice none 0 0 := by rw [hl']; simp (disch := omega) only [↓RP, RQ, TS, TR, ↓reduceIte, Nat.reduceEqDiff, Nat.reduceLT, Nat.reduceLeDiff, Int.reduceLT, Int.reduceLE, Int.reduceEq, Int.reduceAdd, Int.reduceSub, Int.reduceNeg, Int.reduceToNat, Nat.reduceAdd, Nat.reduceMul, Nat.reduceSub, reduceCtorEq, RC, Int.cast_ofNat_Int, hn]
      have k9 : get l' 9 = .slice none 0 0 := by rw [hl']; simp (disch := omega) only [↓RP, RQ, TS, TR, ↓reduceIte, Nat.reduceEqDiff, Nat.reduceLT, Nat.reduceLeDiff, Int.reduceLT, Int.reduceLE, Int.reduceEq, Int.reduceAdd, Int.reduceSub, Int.reduceNeg, Int.reduceToNat, Nat.reduceAdd, Nat.reduceMul, Nat.reduceSub, reduceCtorEq, RC, Int.cast_ofNat_Int, hn]
      have k11 : get l' 11 = .slice none 0 0 := by rw [hl']; simp (disch := omega) only [↓RP, RQ, TS, TR, ↓reduceIte, Nat.reduceEqDiff, Nat.reduceLT, Nat.reduceLeDiff, Int.reduceLT, Int.reduceLE, Int.reduceEq, Int.reduceAdd, Int.reduceSub, Int.reduceNeg, Int.reduceToNat, Nat.reduceAdd, Nat.reduceMul, Nat.reduceSub, reduceCtorEq, RC, Int.cast_ofNat_Int, hn]
      have k13 : get l' 13 = .slice none 0 0 := by rw [hl']; simp (disch := omega) only [↓RP, RQ, TS, TR, ↓reduceIte, Nat.reduceEqDiff, Nat.reduceLT, Nat.reduceLeDiff, Int.reduceLT, Int.reduceLE, Int.reduceEq, Int.reduceAdd, Int.reduceSub, Int.reduceNeg, Int.reduceToNat, Nat.reduceAdd, Nat.reduceMul, Nat.reduceSub, reduceCtorEq, RC, Int.cast_ofNat_Int, hn]
      have k16 : get l' 16 = .slice none 0 0 := by rw [hl']; simp (disch := omega) only [↓RP, RQ, TS, TR, ↓reduceIte, Nat.reduceEqDiff, Nat.reduceLT, Nat.reduceLeDiff, Int.reduceLT, Int.reduceLE, Int.reduceEq, Int.reduceAdd, Int.reduceSub, Int.reduceNeg, Int.reduceToNat, Nat.reduceAdd, Nat.reduceMul, Nat.reduceSub, reduceCtorEq, RC, Int.cast_ofNat_Int, hn]
      have k20 : get l' 20 = .slice none 0 0 := by rw [hl']; simp (disch := omega) only [↓RP, RQ, TS, TR, ↓reduceIte, Nat.reduceEqDiff, Nat.reduceLT, Nat.reduceLeDiff, Int.reduceLT, Int.reduceLE, Int.reduceEq, Int.reduceAdd, Int.reduceSub, Int.reduceNeg, Int.reduceToNat, Nat.reduceAdd, Nat.reduceMul, Nat.reduceSub, reduceCtorEq, RC, Int.cast_ofNat_Int, hn]
      have k22 : get l' 22 = .slice none 0 0 := by rw [hl']; simp (disch := omega) only [↓RP, RQ, TS, TR, ↓reduceIte, Nat.reduceEqDiff, Nat.reduceLT, Nat.reduceLeDiff, Int.reduceLT, Int.reduceLE, Int.reduceEq, Int.reduceAdd, Int.reduceSub, Int.reduceNeg, Int.reduceToNat, Nat.reduceAdd, Nat.reduceMul, Nat.reduceSub, reduceCtorEq, RC, Int.cast_ofNat_Int, hn]
      have k28 : get l' 28 = .slice none 0 0 := by rw [hl']; simp (disch := omega) only [↓RP, RQ, TS, TR, ↓reduceIte, Nat.reduceEqDiff, Nat.reduceLT, Nat.reduceLeDiff, Int.reduceLT, Int.reduceLE, Int.reduceEq, Int.reduceAdd, Int.reduceSub, Int.reduceNeg, Int.reduceToNat, Nat.reduceAdd, Nat.reduceMul, Nat.reduceSub, reduceCtorEq, RC, Int.cast_ofNat_Int, hn]
      have k8 : get l' 8 = I e := by rw [hl']; simp (disch := omega) only [↓RP, RQ, TS, TR, ↓reduceIte, Nat.reduceEqDiff, Nat.reduceLT, Nat.reduceLeDiff, Int.reduceLT, Int.reduceLE, Int.reduceEq, Int.reduceAdd, Int.reduceSub, Int.reduceNeg, Int.reduceToNat, Nat.reduceAdd, Nat.reduceMul, Nat.reduceSub, reduceCtorEq, RC, Int.cast_ofNat_Int, hn]
      have k10 : get l' 10 = I e := by rw [hl']; simp (disch := omega) only [↓RP, RQ, TS, TR, ↓reduceIte, Nat.reduceEqDiff, Nat.reduceLT, Nat.reduceLeDiff, Int.reduceLT, Int.reduceLE, Int.reduceEq, Int.reduceAdd, Int.reduceSub, Int.reduceNeg, Int.reduceToNat, Nat.reduceAdd, Nat.reduceMul, Nat.reduceSub, reduceCtorEq, RC, Int.cast_ofNat_Int, hn]
      have k12 : get l' 12 = I e := by rw [hl']; simp (disch := omega) only [↓RP, RQ, TS, TR, ↓reduceIte, Nat.reduceEqDiff, Nat.reduceLT, Nat.reduceLeDiff, Int.reduceLT, Int.reduceLE, Int.reduceEq, Int.reduceAdd, Int.reduceSub, Int.reduceNeg, Int.reduceToNat, Nat.reduceAdd, Nat.reduceMul, Nat.reduceSub, reduceCtorEq, RC, Int.cast_ofNat_Int, hn]
      have k15 : get l' 15 = I e := by rw [hl']; simp (disch := omega) only [↓RP, RQ, TS, TR, ↓reduceIte, Nat.reduceEqDiff, Nat.reduceLT, Nat.reduceLeDiff, Int.reduceLT, Int.reduceLE, Int.reduceEq, Int.reduceAdd, Int.reduceSub, Int.reduceNeg, Int.reduceToNat, Nat.reduceAdd, Nat.reduceMul, Nat.reduceSub, reduceCtorEq, RC, Int.cast_ofNat_Int, hn]
      have k17 : get l' 17 = I e := by rw [hl']; simp (disch := omega) only [↓RP, RQ, TS, TR, ↓reduceIte, Nat.reduceEqDiff, Nat.reduceLT, Nat.reduceLeDiff, Int.reduceLT, Int.reduceLE, Int.reduceEq, Int.reduceAdd, Int.reduceSub, Int.reduceNeg, Int.reduceToNat, Nat.reduceAdd, Nat.reduceMul, Nat.reduceSub, reduceCtorEq, RC, Int.cast_ofNat_Int, hn]
      have k19 : get l' 19 = I e := by rw [hl']; simp (disch := omega) only [↓RP, RQ, TS, TR, ↓reduceIte, Nat.reduceEqDiff, Nat.reduceLT, Nat.reduceLeDiff, Int.reduceLT, Int.reduceLE, Int.reduceEq, Int.reduceAdd, Int.reduceSub, Int.reduceNeg, Int.reduceToNat, Nat.reduceAdd, Nat.reduceMul, Nat.reduceSub, reduceCtorEq, RC, Int.cast_ofNat_Int, hn]
      have k21 : get l' 21 = I e := by rw [hl']; simp (disch := omega) only [↓RP, RQ, TS, TR, ↓reduceIte, Nat.reduceEqDiff, Nat.reduceLT, Nat.reduceLeDiff, Int.reduceLT, Int.reduceLE, Int.reduceEq, Int.reduceAdd, Int.reduceSub, Int.reduceNeg, Int.reduceToNat, Nat.reduceAdd, Nat.reduceMul, Nat.reduceSub, reduceCtorEq, RC, Int.cast_ofNat_Int, hn]
      have k23 : get l' 23 = I e := by rw [hl']; simp (disch := omega) only [↓RP, RQ, TS, TR, ↓reduceIte, Nat.reduceEqDiff, Nat.reduceLT, Nat.reduceLeDiff, Int.reduceLT, Int.reduceLE, Int.reduceEq, Int.reduceAdd, Int.reduceSub, Int.reduceNeg, Int.reduceToNat, Nat.reduceAdd, Nat.reduceMul, Nat.reduceSub, reduceCtorEq, RC, Int.cast_ofNat_Int, hn]
      have k25 : get l' 25 = I e := by rw [hl']; simp (disch := omega) only [↓RP, RQ, TS, TR, ↓reduceIte, Nat.reduceEqDiff, Nat.reduceLT, Nat.reduceLeDiff, Int.reduceLT, Int.reduceLE, Int.reduceEq, Int.reduceAdd, Int.reduceSub, Int.reduceNeg, Int.reduceToNat, Nat.reduceAdd, Nat.reduceMul, Nat.reduceSub, reduceCtorEq, RC, Int.cast_ofNat_Int, hn]
      have k27 : get l' 27 = I e := by rw [hl']; simp (disch := omega) only [↓RP, RQ, TS, TR, ↓reduceIte, Nat.reduceEqDiff, Nat.reduceLT, Nat.reduceLeDiff, Int.reduceLT, Int.reduceLE, Int.reduceEq, Int.reduceAdd, Int.reduceSub, Int.reduceNeg, Int.reduceToNat, Nat.reduceAdd, Nat.reduceMul, Nat.reduceSub, reduceCtorEq, RC, Int.cast_ofNat_Int, hn]
      have k29 : get l' 29 = I e := by rw [hl']; simp (disch := omega) only [↓RP, RQ, TS, TR, ↓reduceIte, Nat.reduceEqDiff, Nat.reduceLT, Nat.reduceLeDiff, Int.reduceLT, Int.reduceLE, Int.reduceEq, Int.reduceAdd, Int.reduceSub, Int.reduceNeg, Int.reduceToNat, Nat.reduceAdd, Nat.reduceMul, Nat.reduceSub, reduceCtorEq, RC, Int.cast_ofNat_Int, hn]
      clear hl' hn g0 g1
      repeat first | (with_reducible first | refine Wp.seq ?_ | refine Wp.reg ?_ | refine Wp.block ?_ | refine Wp.skip ?_ | refine Wp.ret ?_ | refine Wp.exit ?_ | refine Wp.label ?_ | refine Wp.condG ?_) | simp (disch := omega) only [↓RP, RQ, TS, TR, ↓reduceIte, Nat.reduceEqDiff, Nat.reduceLT, Nat.reduceLeDiff, Int.reduceLT, Int.reduceLE, Int.reduceEq, Int.reduceAdd, Int.reduceSub, Int.reduceNeg, Int.reduceToNat, Nat.reduceAdd, Nat.reduceMul, Nat.reduceSub, reduceCtorEq, RC, Int.cast_ofNat_Int, hn', k5, k7, k14, k18, k24, k26, k6, k9, k11, k13, k16, k20, k22, k28, k8, k10, k12, k15, k17, k19, k21, k23, k25, k27, k29, hS.ld 1 rfl, hS.ld 2 rfl, hS.ld 3 rfl, hnil.len, wrap_fit, f1]
end Go.Ds
/-
  Ds: from the model's world to a heap of ours, and back.
-/
namespace Go.Ds
open Go.RowKit
section
variable {P : Program} {H : Heap}

theorem CallOk.calls {ρ : Rho} {w : World} {f : FuncId} {args : List Value} {v : Value} {H' : Heap} (h : CallOk P f args H v H') {args' : Array Value} (hr : HRel P ρ H w) (ha : All2 (V ρ) args args'.toList) :
    Calls P f args' w fun e w' => ∃ ρ' v', e = .returned v' ∧ Post P ρ H w ρ' H' w' ∧ V ρ' v v' :=
  (h 0 ρ w args' hr ha).calls fun k => by intro d h; cases h

/-- Nothing of what came in may be written. -/
def Shut (ρ : Rho) (H : Heap) : Prop := ∀ b, ¬ Wr ρ H b

theorem Fn.calls {ρ : Rho} {w : World} {f : FuncId} {args : List Value} {b : Bool} (h : Fn P f args H fun v _ => v = .bool b) {args' : Array Value} (hr : HRel P ρ H w) (hs : Shut ρ H) (ha : All2 (V ρ) args args'.toList) :
    Calls P f args' w fun e w' => e = .returned (.bool b) ∧ Below w.heap.size w w' := by
  obtain ⟨_, v, H1, h1, rfl⟩ := h
  refine (h1.calls hr ha).mono ?_
  rintro e w' ⟨ρ', v', rfl, hp, hv⟩
  refine ⟨?_, hp.os, hp.tape, hp.output, hp.size, fun k hk => (hp.frame k hk (hs k)).1⟩
  rw [hv.eq_of_flat rfl]

theorem HRel.none (w : World) : HRel P (fun _ _ => Option.none) .nil w := .empty w
theorem Shut.none : Shut (fun _ _ => Option.none) .nil := fun b ⟨A, e, p, blk, h, _⟩ => by cases h

/-- One slice that came in, to be read. -/
theorem HRel.input {w : World} {b off len cap size : Nat} {cur : Array Value} {t' : TypeId} {fr : Nat × Nat} (hb : w.heap[b]? = some (.cells cur t' fr)) {ty : TypeId} (hty : sizeP P ty = some size) (hl : len ≤ cap) (hsz : cap = 0 ∨ off + cap * size ≤ cur.size)
    (cs : List Value) (hcs : cs.length = len * size) (hcell : ∀ i, i < cs.length → cur[off + i]? = cs[i]?) (hflat : ∀ c ∈ cs, scalar c = true) :
    ∃ (ρ : Rho) (H : Heap) (v : Value), HRel P ρ H w ∧ Shut ρ H ∧ V ρ v (.slice (some ⟨b, off, Option.none⟩) len cap) ∧ RdAt H v size cs := by
  let d : Int := if cap = 0 then 0 else off
  let p : Place := ⟨b, d, cur.size, size⟩
  have hg : hget (Heap.nil.cons (.cells cs ty false 0 0)) 0 = some (.cells cs ty false 0 0) := hget_cons_new Heap.nil _
  have hlen1 : (Heap.nil.cons (.cells cs ty false 0 0)).length = 1 := by rw [cons_eq]; rfl
  have hA : ∀ A blk, hget (Heap.nil.cons (.cells cs ty false 0 0)) A = some blk → A = 0 ∧ blk = .cells cs ty false 0 0 := by
    intro A blk h
    have : A < 1 := by rw [← hlen1]; exact hget_lt h
    obtain rfl : A = 0 := by omega
    rw [hg] at h
    exact ⟨rfl, (Option.some.inj h).symm⟩
  refine ⟨fun A e => if A = 0 ∧ e = cs.length then some p else Option.none, Heap.nil.cons (.cells cs ty false 0 0), .slice (some ⟨0, 0, some cs.length⟩) len size, ?_, ?_, ?_, ?_⟩
  · have hρ : ∀ A e q, (if A = 0 ∧ e = cs.length then some p else Option.none) = some q → A = 0 ∧ e = cs.length ∧ q = p := by
      intro A e q h
      split at h
      · rename_i hh; exact ⟨hh.1, hh.2, (Option.some.inj h).symm⟩
      · cases h
    refine ⟨?_, ?_, ?_, ?_, ?_, ?_, ?_⟩
    · intro A e q h
      obtain ⟨rfl, rfl, rfl⟩ := hρ _ _ _ h
      exact ⟨by rw [hlen1]; omega, blk_lt hb⟩
    · intro A cs' ty' rw' lo ver h
      obtain ⟨rfl, he⟩ := hA _ _ h
      cases he
      refine ⟨⟨p, by simp⟩, ?_⟩
      intro e q hq
      obtain ⟨_, rfl, rfl⟩ := hρ _ _ _ hq
      refine ⟨Nat.le_refl _, hty, ?_, cur, t', fr, hb, rfl, (fun h => by cases h), ?_⟩
      · show ((cs.length : Nat) : Int) + d ≤ cur.size
        rcases hsz with h0 | h0
        · have : len = 0 := by omega
          subst this
          simp only [d, if_pos h0]
          rw [hcs]; simp
        · simp only [d]
          split
          · rename_i hc
            have : len = 0 := by omega
            subst this
            rw [hcs]; simp
          · have : len * size ≤ cap * size := Nat.mul_le_mul_right _ hl
            omega
      · intro _ i c hi h0 hc
        have hcap : cap ≠ 0 := fun hc0 => by
          have : len = 0 := by omega
          subst this
          simp at hcs
          simp [hcs] at hi
        have hat : p.at i = off + i := by
          simp only [Place.at, p, d, if_neg hcap]
          omega
        refine ⟨c, by rw [hat, hcell i hi, hc], .of_scalar (hflat c (List.mem_of_getElem? hc))⟩
    · intro A es ck ver h
      have := (hA _ _ h).2; cases this
    · intro A r h
      have := (hA _ _ h).2; cases this
    · intro A e q blk h hblk
      rw [(hA _ _ hblk).2]; exact .inl rfl
    · intro A e q A2 e2 q2 blk h h2 _ hblk hw
      rw [(hA _ _ hblk).2] at hw; cases hw
    · intro A h
      rw [hlen1] at h
      obtain rfl : A = 0 := by omega
      rw [hg]; rfl
  · rintro b' ⟨A, e, q, blk, h, _, hblk, hw⟩
    rw [(hA _ _ hblk).2] at hw; cases hw
  · refine .v1 (.c1 (.c0 ?_))
    have h1 : (fun A e => if A = 0 ∧ e = cs.length then some p else Option.none : Rho) 0 cs.length = some p := by simp
    refine C0.slice (p := p) h1 ?_ ?_ hl ?_
    · show (0 : Int) ≤ ((0 : Nat) : Int) + d
      simp only [d]; split <;> omega
    · show 0 + len * size ≤ cs.length
      omega
    · rcases hsz with h0 | h0
      · exact .inr ⟨by omega, h0⟩
      · by_cases hc : cap = 0
        · exact .inr ⟨by omega, hc⟩
        · left
          have hat : p.at 0 = off := by simp only [Place.at, p, d, if_neg hc]; omega
          rw [hat]
          exact ⟨rfl, h0⟩
  · refine .inr ⟨0, 0, cs.length, cs, ty, false, 0, 0, len, hg, Nat.zero_le _, Nat.le_refl _, by omega, by simp, hcs, rfl⟩
end
end Go.Ds
/-
  A described graph's links, as they come in.
-/
namespace Go.Ds
open Go.Proofs Go.ChangeShapes Go.WideShapes Go.RowKit

def numN (v : Value) : Nat := match v with | .int _ n => n.toNat | _ => 0

theorem cell_at {w : World} {b off j : Nat} {v : Value} {cur : Array Value} {t : TypeId} {fr : Nat × Nat} (hb : w.heap[b]? = some (.cells cur t fr)) (h : w.cell? ((⟨b, off, none⟩ : Addr).add j) = some v) : cur[off + j]? = some v := by
  have e : (⟨b, off, none⟩ : Addr).add j = ⟨b, off + j, none⟩ := by
    unfold Addr.add
    split
    · rename_i h0; subst h0; rfl
    · rfl
  rw [e] at h
  simp only [World.cell?, hb] at h
  simpa using h

theorem u8_of {H : Type} {enc : TypeId × Value → H} {w : World} {base : Nat} {spare : Nat → Bool} {held : Bool} {n : Nat} {v : Value} {x : DataW H × List MemPlace} (h : DataW.trod enc Try.prog w base spare held n 5 [v] = some x) : v = U (numN v) ∧ numN v < 256 := by
  obtain ⟨m, hv, _, hw⟩ := DataW.trod_int Try.underlying5 h
  have hv : v = .int .u8 m := by simpa using hv
  subst hv
  have hm : 0 ≤ m ∧ m ≤ 255 := by simpa [Lit.wf, IntKind.min, IntKind.max, IntKind.signed, IntKind.bits] using hw
  simp only [numN]
  refine ⟨?_, by omega⟩
  rw [Int.toNat_of_nonneg hm.1]

theorem flat2_get {α : Type} (f g : α → Value) (xs : List α) (j : Nat) (hj : j < xs.length) (d : α) : (xs.flatMap fun x => [f x, g x])[j * 2]? = some (f (xs.getD j d)) ∧ (xs.flatMap fun x => [f x, g x])[j * 2 + 1]? = some (g (xs.getD j d)) := by
  have := Sl2.drop (f := f) (g := g) j hj d
  constructor
  · have h2 : ((xs.flatMap fun x => [f x, g x]).drop (j * 2))[0]? = some (f (xs.getD j d)) := by rw [this]; rfl
    rwa [List.getElem?_drop] at h2
  · have h2 : ((xs.flatMap fun x => [f x, g x]).drop (j * 2))[1]? = some (g (xs.getD j d)) := by rw [this]; rfl
    rwa [List.getElem?_drop] at h2

theorem ce60 : Try.prog.cellsOf 60 = 2 := by kernel_rfl
theorem ce5 : Try.prog.cellsOf 5 = 1 := by kernel_rfl
set_option maxRecDepth 100000 in
theorem links_in {H : Type} {enc : TypeId × Value → H} {W : World} {base b0 : Nat} {v0 : Value} {d0 : DataW H} {p0 : List MemPlace} (h0 : DataW.Trod enc Try.prog W base (fun _ => true) true 22 v0 d0 p0) (hval : Value.okWide Try.prog W .any b0 22 v0) :
    ∃ (ρ : Rho) (H : Heap) (v : Value) (ls : List (Nat × Nat)), HRel Try.prog ρ H W ∧ Shut ρ H ∧ V ρ v v0 ∧ Lk H v ls ∧ ∀ x ∈ ls, x.1 < 256 ∧ x.2 < 256 := by
  obtain ⟨a0, len, cap, rfl⟩ := okWide_slice Try.underlying22 hval
  obtain ⟨fuel, hf⟩ := h0
  rcases Go.Deep.open_slice_pairs Try.underlying22 Try.underlying60 ce60 rfl rfl ce5 ce5 hf with ⟨hcs, _⟩ | ⟨a, len', cap', m, n, V0, V1, D0, D1, P0, P1, hcs, _, hl, _, hmm, _, hcell⟩
  · simp [Value.cells] at hcs
    obtain ⟨rfl, rfl, rfl⟩ := hcs
    exact ⟨_, _, .slice none 0 0, [], .none W, .none, .of_flat rfl, .inl ⟨rfl, rfl⟩, by simp⟩
  · simp [Value.cells] at hcs
    obtain ⟨h1, h2, h3⟩ := hcs
    subst h1
    simp only [if_true] at hmm
    rw [← h2, ← h3] at hl
    rw [← h3] at hmm
    rw [hmm] at hcell
    clear h2 h3 hmm
    simp only [Value.okWide, Try.underlying22, Cell.okWide, Cell.ok] at hval
    obtain ⟨_, _, _, hspot, row, cells, hshape, _⟩ := hval
    obtain ⟨b, off, spot⟩ := a
    simp only at hspot hshape
    subst hspot
    unfold World.shape? at hshape
    split at hshape
    case h_2 => cases hshape
    rename_i cur t' fr hb
    have hc0 : ∀ i, i < cap → cur[off + i * 2]? = some (V0 i) := fun i hi => cell_at hb (hcell i hi).1
    have hc1 : ∀ i, i < cap → cur[off + (i * 2 + 1)]? = some (V1 i) := fun i hi => cell_at hb (hcell i hi).2.1
    have hu0 : ∀ i, i < cap → V0 i = U (numN (V0 i)) ∧ numN (V0 i) < 256 := fun i hi => u8_of (hcell i hi).2.2.1
    have hu1 : ∀ i, i < cap → V1 i = U (numN (V1 i)) ∧ numN (V1 i) < 256 := fun i hi => u8_of (hcell i hi).2.2.2
    let ls : List (Nat × Nat) := (List.range len).map fun i => (numN (V0 i), numN (V1 i))
    have hll : ls.length = len := by simp [ls]
    have hlg : ∀ i, i < len → ls.getD i (0, 0) = (numN (V0 i), numN (V1 i)) := fun i hi => by simp [ls, List.getD_eq_getElem?_getD, hi]
    have hsz : cap = 0 ∨ off + cap * 2 ≤ cur.size := by
      by_cases h0 : cap = 0
      · exact .inl h0
      · right
        have := (Array.getElem?_eq_some_iff.1 (hc1 (cap - 1) (by omega))).1
        omega
    obtain ⟨ρ, H', v, h1, h2, h3, h4⟩ := HRel.input (P := Try.prog) hb tS60 hl hsz (ls.flatMap fun e => [U e.1, U e.2]) (by rw [flat2_length, hll]) (by
      intro i hi
      rw [flat2_length, hll] at hi
      have hj : i / 2 < len := by omega
      have hg := flat2_get (fun e : Nat × Nat => U e.1) (fun e => U e.2) ls (i / 2) (by rw [hll]; exact hj) (0, 0)
      rw [hlg _ hj] at hg
      by_cases hp : i % 2 = 0
      · have e : i = i / 2 * 2 := by omega
        rw [e, hg.1, hc0 _ (by omega)]
        exact congrArg some (hu0 _ (by omega)).1
      · have e : i = i / 2 * 2 + 1 := by omega
        rw [e, hg.2, hc1 _ (by omega)]
        exact congrArg some (hu1 _ (by omega)).1) (by
      intro c hc
      obtain ⟨x, _, hx⟩ := List.mem_flatMap.1 hc
      simp only [List.mem_cons, List.not_mem_nil, or_false] at hx
      rcases hx with rfl | rfl <;> rfl)
    refine ⟨ρ, H', v, ls, h1, h2, h3, h4, ?_⟩
    intro x hx
    obtain ⟨i, hi, rfl⟩ := List.mem_map.1 hx
    have := List.mem_range.1 hi
    exact ⟨(hu0 i (by omega)).2, (hu1 i (by omega)).2⟩

theorem u8_in {w : Int} (h : (Lit.int .u8 w).wf = true) : ∃ n : Nat, n < 256 ∧ w = n := by
  have hm : 0 ≤ w ∧ w ≤ 255 := by simpa [Lit.wf, IntKind.min, IntKind.max, IntKind.signed, IntKind.bits] using h
  exact ⟨w.toNat, by omega, by omega⟩
end Go.Ds
/-
  A graph by any numbers, as it comes in.
-/
namespace Go.Ds
open Go.Proofs Go.ChangeShapes Go.WideShapes Go.RowKit

def numZ (v : Value) : Int := match v with | .int _ n => n | _ => 0
theorem i64_of {H : Type} {enc : TypeId × Value → H} {w : World} {base : Nat} {spare : Nat → Bool} {held : Bool} {n : Nat} {v : Value} {x : DataW H × List MemPlace} (h : DataW.trod enc Try.prog w base spare held n 3 [v] = some x) : v = I (numZ v) := by
  obtain ⟨m, hv, _, hw⟩ := DataW.trod_int Try.underlying3 h
  have hv : v = .int .i64 m := by simpa using hv
  subst hv
  rfl
theorem ce48 : Try.prog.cellsOf 48 = 2 := by kernel_rfl
theorem ce3 : Try.prog.cellsOf 3 = 1 := by kernel_rfl
theorem ce25 : Try.prog.cellsOf 25 = 1 := by kernel_rfl
theorem ce27 : Try.prog.cellsOf 27 = 2 := by kernel_rfl

theorem C1.of_sliceV {ρ : Rho} {v : Value} {a : Option Addr} {n c : Nat} (h : V ρ v (.slice a n c)) : C1 ρ v (.slice a n c) := by
  cases h with
  | v1 h => cases h with
    | c1 h => exact h

set_option maxRecDepth 100000 in
theorem edges_in {H : Type} {enc : TypeId × Value → H} {W : World} {base b0 : Nat} {v0 : Value} {d0 : DataW H} {p0 : List MemPlace} (h0 : DataW.Trod enc Try.prog W base (fun _ => true) true 25 v0 d0 p0) (hval : Value.okWide Try.prog W .any b0 25 v0) :
    ∃ (ρ : Rho) (H : Heap) (v : Value) (ls : List (Int × Int)), HRel Try.prog ρ H W ∧ Shut ρ H ∧ V ρ v v0 ∧ C1 ρ v v0 ∧ EgZ H v ls := by
  obtain ⟨a0, len, cap, rfl⟩ := okWide_slice Try.underlying25 hval
  obtain ⟨fuel, hf⟩ := h0
  rcases Go.Deep.open_slice_pairs Try.underlying25 Try.underlying48 ce48 rfl rfl ce3 ce3 hf with ⟨hcs, _⟩ | ⟨a, len', cap', m, n, V0, V1, D0, D1, P0, P1, hcs, _, hl, _, hmm, _, hcell⟩
  · simp [Value.cells] at hcs
    obtain ⟨rfl, rfl, rfl⟩ := hcs
    exact ⟨_, _, .slice none 0 0, [], .none W, .none, .of_flat rfl, .c0 (.flat rfl), .inl ⟨rfl, rfl⟩⟩
  · simp [Value.cells] at hcs
    obtain ⟨h1, h2, h3⟩ := hcs
    subst h1
    simp only [if_true] at hmm
    rw [← h2, ← h3] at hl
    rw [← h3] at hmm
    rw [hmm] at hcell
    clear h2 h3 hmm
    simp only [Value.okWide, Try.underlying25, Cell.okWide, Cell.ok] at hval
    obtain ⟨_, _, _, hspot, row, cells, hshape, _⟩ := hval
    obtain ⟨b, off, spot⟩ := a
    simp only at hspot hshape
    subst hspot
    unfold World.shape? at hshape
    split at hshape
    case h_2 => cases hshape
    rename_i cur t' fr hb
    have hc0 : ∀ i, i < cap → cur[off + i * 2]? = some (V0 i) := fun i hi => cell_at hb (hcell i hi).1
    have hc1 : ∀ i, i < cap → cur[off + (i * 2 + 1)]? = some (V1 i) := fun i hi => cell_at hb (hcell i hi).2.1
    have hu0 : ∀ i, i < cap → V0 i = I (numZ (V0 i)) := fun i hi => i64_of (hcell i hi).2.2.1
    have hu1 : ∀ i, i < cap → V1 i = I (numZ (V1 i)) := fun i hi => i64_of (hcell i hi).2.2.2
    let ls : List (Int × Int) := (List.range len).map fun i => (numZ (V0 i), numZ (V1 i))
    have hll : ls.length = len := by simp [ls]
    have hlg : ∀ i, i < len → ls.getD i (0, 0) = (numZ (V0 i), numZ (V1 i)) := fun i hi => by simp [ls, List.getD_eq_getElem?_getD, hi]
    have hsz : cap = 0 ∨ off + cap * 2 ≤ cur.size := by
      by_cases h0 : cap = 0
      · exact .inl h0
      · right
        have := (Array.getElem?_eq_some_iff.1 (hc1 (cap - 1) (by omega))).1
        omega
    obtain ⟨ρ, H', v, h1, h2, h3, h4⟩ := HRel.input (P := Try.prog) hb tS48 hl hsz (ls.flatMap fun e => [I e.1, I e.2]) (by rw [flat2_length, hll]) (by
      intro i hi
      rw [flat2_length, hll] at hi
      have hj : i / 2 < len := by omega
      have hg := flat2_get (fun e : Int × Int => I e.1) (fun e => I e.2) ls (i / 2) (by rw [hll]; exact hj) (0, 0)
      rw [hlg _ hj] at hg
      by_cases hp : i % 2 = 0
      · have e : i = i / 2 * 2 := by omega
        rw [e, hg.1, hc0 _ (by omega)]
        exact congrArg some (hu0 _ (by omega))
      · have e : i = i / 2 * 2 + 1 := by omega
        rw [e, hg.2, hc1 _ (by omega)]
        exact congrArg some (hu1 _ (by omega))) (by
      intro c hc
      obtain ⟨x, _, hx⟩ := List.mem_flatMap.1 hc
      simp only [List.mem_cons, List.not_mem_nil, or_false] at hx
      rcases hx with rfl | rfl <;> rfl)
    exact ⟨ρ, H', v, ls, h1, h2, h3, C1.of_sliceV h3, h4⟩

theorem cty27 : Try.prog.cellTypes Try.prog.depth 27 = some [3, 25] := by kernel_rfl
set_option maxRecDepth 100000 in
theorem graph_in {H : Type} {enc : TypeId × Value → H} {W : World} {base b0 : Nat} {v0 : Value} {d0 : DataW H} {p0 : List MemPlace} (h0 : DataW.Trod enc Try.prog W base (fun _ => true) true 27 v0 d0 p0) (hval : Value.okWide Try.prog W .any b0 27 v0) :
    ∃ (ρ : Rho) (H : Heap) (N : Int) (v : Value) (es : List (Int × Int)), HRel Try.prog ρ H W ∧ Shut ρ H ∧ V ρ (.agg #[I N, v]) v0 ∧ EgZ H v es := by
  simp only [Value.okWide, Try.underlying27] at hval
  obtain ⟨cs, rfl, hsz, hrow⟩ := hval
  rw [ce27] at hsz
  obtain ⟨fuel, hf⟩ := h0
  obtain ⟨y0, y1, n, _, _, k0, k1⟩ := trod_struct2 Try.underlying27 hf
  obtain ⟨l⟩ := cs
  have hl : l.length = 2 := hsz
  match l, hl with
  | [x, y], _ =>
    have e0 : DataW.trod enc Try.prog W base (fun _ => true) true n 3 [x] = some y0 := by
      have e : List.take (Try.prog.cellsOf 3) [x, y] = [x] := by rw [ce3]; rfl
      have k := k0
      simp only [Value.cells] at k
      exact e ▸ k
    have e1 : DataW.trod enc Try.prog W base (fun _ => true) true n 25 [y] = some y1 := by
      have e : List.take (Try.prog.cellsOf 25) [y] = [y] := by rw [ce25]; rfl
      have k := k1
      simp only [Value.cells] at k
      exact e ▸ k
    obtain ⟨ts, ht, _, hcell⟩ := hrow
    rw [cty27] at ht
    obtain rfl := Option.some.inj ht
    obtain ⟨u, hu, hok⟩ := hcell 1 y rfl
    obtain rfl : 25 = u := Option.some.inj hu
    have hy : Value.okWide Try.prog W .any b0 25 y := by
      simp only [Value.okWide, Try.underlying25]
      exact hok
    have hyc : y.cells.toList = [y] := by
      obtain ⟨a, m, c, rfl⟩ := okWide_slice Try.underlying25 hy
      rfl
    obtain ⟨ρ, H', v, es, h1, h2, _, h3, h4⟩ := edges_in (v0 := y) (d0 := y1.1) (p0 := y1.2) ⟨n, by rw [hyc]; exact e1⟩ hy
    have hx := i64_of e0
    refine ⟨ρ, H', numZ x, v, es, h1, h2, ?_, h4⟩
    rw [hx]
    exact .v1 (.agg ⟨.c0 (.flat rfl), h3, trivial⟩)
end Go.Ds
