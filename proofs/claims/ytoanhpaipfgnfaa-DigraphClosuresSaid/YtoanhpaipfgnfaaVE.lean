/-
  The law on Reverse, Closure and Needed: its walk.
-/
import Derived.Test.YtoanhpaipfgnfaaVC
import Derived.Test.YtoanhpaipfgnfaaVD
import Derived.Test.YtoanhpaipfgnfaaVB
import Derived.Below
import Derived.ProofKit
import Derived.Deep.SlicePairs
set_option linter.unusedVariables false
set_option linter.unusedSimpArgs false
namespace Go.Ds
open Go.Proofs Go.Plain
variable {H : Heap} {P : Program}

theorem clo_le2 (N : Nat) (es : List (Nat × Nat)) (ds : Nat → List Int) : ∀ i, (clo N es ds i).length ≤ i * N
  | 0 => by simp [clo]
  | i + 1 => by
    have h1 := clo_le2 N es ds i
    have h2 := clr_le es ds i N
    rw [clo_succ, List.length_append, Nat.succ_mul]
    omega

theorem closures_ok (a : Nat) (ha : a < 256) (v : Value) (ls : List (Nat × Nat)) (hv : Lk H v ls) (hb : ∀ x ∈ ls, x.1 < 256 ∧ x.2 < 256) : Fn Try.prog 8 [U a, v] H fun r H' => r = .bool true := by
  refine Fn.of_wp (fn := Try.f8) rfl rfl (by kernel_rfl) fun l hl => ?_
  have hn : l.length = 168 := by rw [hl]; rfl
  have g0 : get l 0 = U a := by rw [hl]; rfl
  have g1 : get l 1 = v := by rw [hl]; rfl
  clear hl
  have hv0 : Sl2 H v _ _ ls := hv
  repeat first | (with_reducible first | refine Wp.seq ?_ | refine Wp.reg ?_ | refine Wp.block ?_ | refine Wp.skip ?_ | refine Wp.ret ?_ | refine Wp.exit ?_ | refine Wp.label ?_ | refine Wp.condG ?_) | simp (disch := omega) only [↓RP, RQ, TS, TR, ↓reduceIte, Nat.reduceEqDiff, Nat.reduceLT, Nat.reduceLeDiff, Int.reduceLT, Int.reduceLE, Int.reduceEq, Int.reduceAdd, Int.reduceSub, Int.reduceNeg, Int.reduceToNat, Nat.reduceAdd, Nat.reduceMul, Nat.reduceSub, reduceCtorEq, RC, Int.cast_ofNat_Int, hn, g0, g1]
  refine callFW_of (known_ok H) ?_
  rintro r H1 ⟨rfl, rfl⟩
  repeat first | (with_reducible first | refine Wp.seq ?_ | refine Wp.reg ?_ | refine Wp.block ?_ | refine Wp.skip ?_ | refine Wp.ret ?_ | refine Wp.exit ?_ | refine Wp.label ?_ | refine Wp.condG ?_) | simp (disch := omega) only [↓RP, RQ, TS, TR, ↓reduceIte, Nat.reduceEqDiff, Nat.reduceLT, Nat.reduceLeDiff, Int.reduceLT, Int.reduceLE, Int.reduceEq, Int.reduceAdd, Int.reduceSub, Int.reduceNeg, Int.reduceToNat, Nat.reduceAdd, Nat.reduceMul, Nat.reduceSub, reduceCtorEq, RC, Int.cast_ofNat_Int, hn, g0, g1, hv0.len]
  refine condW_split (fun h => ?_) (fun h => ?_)
  · repeat first | (with_reducible first | refine Wp.seq ?_ | refine Wp.reg ?_ | refine Wp.block ?_ | refine Wp.skip ?_ | refine Wp.ret ?_ | refine Wp.exit ?_ | refine Wp.label ?_ | refine Wp.condG ?_) | simp (disch := omega) only [↓RP, RQ, TS, TR, ↓reduceIte, Nat.reduceEqDiff, Nat.reduceLT, Nat.reduceLeDiff, Int.reduceLT, Int.reduceLE, Int.reduceEq, Int.reduceAdd, Int.reduceSub, Int.reduceNeg, Int.reduceToNat, Nat.reduceAdd, Nat.reduceMul, Nat.reduceSub, reduceCtorEq, RC, Int.cast_ofNat_Int, hn, g0, g1]
    refine callFW_of (known_ok _) ?_
    rintro r H1 ⟨rfl, rfl⟩
    repeat first | (with_reducible first | refine Wp.seq ?_ | refine Wp.reg ?_ | refine Wp.block ?_ | refine Wp.skip ?_ | refine Wp.ret ?_ | refine Wp.exit ?_ | refine Wp.label ?_ | refine Wp.condG ?_) | simp (disch := omega) only [↓RP, RQ, TS, TR, ↓reduceIte, Nat.reduceEqDiff, Nat.reduceLT, Nat.reduceLeDiff, Int.reduceLT, Int.reduceLE, Int.reduceEq, Int.reduceAdd, Int.reduceSub, Int.reduceNeg, Int.reduceToNat, Nat.reduceAdd, Nat.reduceMul, Nat.reduceSub, reduceCtorEq, RC, Int.cast_ofNat_Int, hn, g0, g1]
  repeat first | (with_reducible first | refine Wp.seq ?_ | refine Wp.reg ?_ | refine Wp.block ?_ | refine Wp.skip ?_ | refine Wp.ret ?_ | refine Wp.exit ?_ | refine Wp.label ?_ | refine Wp.condG ?_) | simp (disch := omega) only [↓RP, RQ, TS, TR, ↓reduceIte, Nat.reduceEqDiff, Nat.reduceLT, Nat.reduceLeDiff, Int.reduceLT, Int.reduceLE, Int.reduceEq, Int.reduceAdd, Int.reduceSub, Int.reduceNeg, Int.reduceToNat, Nat.reduceAdd, Nat.reduceMul, Nat.reduceSub, reduceCtorEq, RC, Int.cast_ofNat_Int, hn, g0, g1]
  refine callFW_of (make_ok a ha v ls hv (by omega) hb) ?_
  rintro r H2 ⟨w, rfl, hE, _⟩
  have hN := mkN_pos a
  have hval := mkE_val a ls
  have hl := mkE_length a ls
  generalize mkE a ls = es at hE hval hl
  generalize mkN a = N at hE hval hN
  have T := tables N w es hE (by omega) (by omega) hval
  have hdT := dT_le N w es hE (by omega) (by omega) hval
  repeat first | (with_reducible first | refine Wp.seq ?_ | refine Wp.reg ?_ | refine Wp.block ?_ | refine Wp.skip ?_ | refine Wp.ret ?_ | refine Wp.exit ?_ | refine Wp.label ?_ | refine Wp.condG ?_) | simp (disch := omega) only [↓RP, RQ, TS, TR, ↓reduceIte, Nat.reduceEqDiff, Nat.reduceLT, Nat.reduceLeDiff, Int.reduceLT, Int.reduceLE, Int.reduceEq, Int.reduceAdd, Int.reduceSub, Int.reduceNeg, Int.reduceToNat, Nat.reduceAdd, Nat.reduceMul, Nat.reduceSub, reduceCtorEq, RC, Int.cast_ofNat_Int, hn, g0, g1]
  refine (St.refl _ H2).eNew 2 [I 0, .slice none 0 0] rfl rfl rfl tS27 fun A H3 hS => ?_
  repeat first | (with_reducible first | refine Wp.seq ?_ | refine Wp.reg ?_ | refine Wp.block ?_ | refine Wp.skip ?_ | refine Wp.ret ?_ | refine Wp.exit ?_ | refine Wp.label ?_ | refine Wp.condG ?_) | simp (disch := omega) only [↓RP, RQ, TS, TR, ↓reduceIte, Nat.reduceEqDiff, Nat.reduceLT, Nat.reduceLeDiff, Int.reduceLT, Int.reduceLE, Int.reduceEq, Int.reduceAdd, Int.reduceSub, Int.reduceNeg, Int.reduceToNat, Nat.reduceAdd, Nat.reduceMul, Nat.reduceSub, reduceCtorEq, RC, Int.cast_ofNat_Int, hn, g0, g1]
  refine hS.eStore 0 rfl [I N, w] rfl (by simp [hE.one]; rfl) tS27 (by simp) fun H4 hS => ?_
  simp only [List.nil_append, List.cons_append, List.append_nil, List.set_cons_zero, List.set_cons_succ, setMany_cons, setMany_nil, Nat.zero_add, Nat.mul_one, Nat.add_zero] at hS
  repeat first | (with_reducible first | refine Wp.seq ?_ | refine Wp.reg ?_ | refine Wp.block ?_ | refine Wp.skip ?_ | refine Wp.ret ?_ | refine Wp.exit ?_ | refine Wp.label ?_ | refine Wp.condG ?_) | simp (disch := omega) only [↓RP, RQ, TS, TR, ↓reduceIte, Nat.reduceEqDiff, Nat.reduceLT, Nat.reduceLeDiff, Int.reduceLT, Int.reduceLE, Int.reduceEq, Int.reduceAdd, Int.reduceSub, Int.reduceNeg, Int.reduceToNat, Nat.reduceAdd, Nat.reduceMul, Nat.reduceSub, reduceCtorEq, RC, Int.cast_ofNat_Int, hn, g0, g1, hS.ldA 0 rfl]
  refine callFW_of (reverse_ok N w es (hS.base hE) (by omega) (by omega) hval) ?_
  rintro r H5 ⟨wr, rfl, hS2⟩
  have hS := hS.trans hS2
  simp only [List.nil_append, List.cons_append, List.append_nil, List.set_cons_zero, List.set_cons_succ, setMany_cons, setMany_nil, Nat.zero_add, Nat.mul_one, Nat.add_zero] at hS
  repeat first | (with_reducible first | refine Wp.seq ?_ | refine Wp.reg ?_ | refine Wp.block ?_ | refine Wp.skip ?_ | refine Wp.ret ?_ | refine Wp.exit ?_ | refine Wp.label ?_ | refine Wp.condG ?_) | simp (disch := omega) only [↓RP, RQ, TS, TR, ↓reduceIte, Nat.reduceEqDiff, Nat.reduceLT, Nat.reduceLeDiff, Int.reduceLT, Int.reduceLE, Int.reduceEq, Int.reduceAdd, Int.reduceSub, Int.reduceNeg, Int.reduceToNat, Nat.reduceAdd, Nat.reduceMul, Nat.reduceSub, reduceCtorEq, RC, Int.cast_ofNat_Int, hn, g0, g1]
  refine hS.eNew 2 [I 0, .slice none 0 0] rfl rfl rfl tS27 fun B H6 hS => ?_
  have hwr := (hS.rd 1 rfl).cells
  repeat first | (with_reducible first | refine Wp.seq ?_ | refine Wp.reg ?_ | refine Wp.block ?_ | refine Wp.skip ?_ | refine Wp.ret ?_ | refine Wp.exit ?_ | refine Wp.label ?_ | refine Wp.condG ?_) | simp (disch := omega) only [↓RP, RQ, TS, TR, ↓reduceIte, Nat.reduceEqDiff, Nat.reduceLT, Nat.reduceLeDiff, Int.reduceLT, Int.reduceLE, Int.reduceEq, Int.reduceAdd, Int.reduceSub, Int.reduceNeg, Int.reduceToNat, Nat.reduceAdd, Nat.reduceMul, Nat.reduceSub, reduceCtorEq, RC, Int.cast_ofNat_Int, hn, g0, g1]
  refine hS.eStore 2 rfl [I N, wr] rfl (by simp [hwr.2.1]; rfl) tS27 (by simp) fun H7 hS => ?_
  simp only [List.nil_append, List.cons_append, List.append_nil, List.set_cons_zero, List.set_cons_succ, setMany_cons, setMany_nil, Nat.zero_add, Nat.mul_one, Nat.add_zero] at hS
  repeat first | (with_reducible first | refine Wp.seq ?_ | refine Wp.reg ?_ | refine Wp.block ?_ | refine Wp.skip ?_ | refine Wp.ret ?_ | refine Wp.exit ?_ | refine Wp.label ?_ | refine Wp.condG ?_) | simp (disch := omega) only [↓RP, RQ, TS, TR, ↓reduceIte, Nat.reduceEqDiff, Nat.reduceLT, Nat.reduceLeDiff, Int.reduceLT, Int.reduceLE, Int.reduceEq, Int.reduceAdd, Int.reduceSub, Int.reduceNeg, Int.reduceToNat, Nat.reduceAdd, Nat.reduceMul, Nat.reduceSub, reduceCtorEq, RC, Int.cast_ofNat_Int, hn, g0, g1, hS.ldA 0 rfl]
  refine callFW_of (closure_ok N w es (hS.base hE) (by omega) (by omega) hval) ?_
  have hsq : N * N ≤ 7 * 7 := Nat.mul_le_mul (by omega) (by omega)
  rintro r H8 ⟨ds, hds, ⟨hle, wc, rfl, hS2⟩ | ⟨hgt, _, _⟩⟩
  case inr => have := clo_le2 N es ds N; omega
  have hS := hS.trans hS2
  simp only [List.nil_append, List.cons_append, List.append_nil, List.set_cons_zero, List.set_cons_succ, setMany_cons, setMany_nil, Nat.zero_add, Nat.mul_one, Nat.add_zero] at hS
  repeat first | (with_reducible first | refine Wp.seq ?_ | refine Wp.reg ?_ | refine Wp.block ?_ | refine Wp.skip ?_ | refine Wp.ret ?_ | refine Wp.exit ?_ | refine Wp.label ?_ | refine Wp.condG ?_) | simp (disch := omega) only [↓RP, RQ, TS, TR, ↓reduceIte, Nat.reduceEqDiff, Nat.reduceLT, Nat.reduceLeDiff, Int.reduceLT, Int.reduceLE, Int.reduceEq, Int.reduceAdd, Int.reduceSub, Int.reduceNeg, Int.reduceToNat, Nat.reduceAdd, Nat.reduceMul, Nat.reduceSub, reduceCtorEq, RC, Int.cast_ofNat_Int, hn, g0, g1]
  refine hS.eNew 2 [I 0, .slice none 0 0] rfl rfl rfl tS27 fun C H9 hS => ?_
  have hwc := (hS.rd 3 rfl).cells
  repeat first | (with_reducible first | refine Wp.seq ?_ | refine Wp.reg ?_ | refine Wp.block ?_ | refine Wp.skip ?_ | refine Wp.ret ?_ | refine Wp.exit ?_ | refine Wp.label ?_ | refine Wp.condG ?_) | simp (disch := omega) only [↓RP, RQ, TS, TR, ↓reduceIte, Nat.reduceEqDiff, Nat.reduceLT, Nat.reduceLeDiff, Int.reduceLT, Int.reduceLE, Int.reduceEq, Int.reduceAdd, Int.reduceSub, Int.reduceNeg, Int.reduceToNat, Nat.reduceAdd, Nat.reduceMul, Nat.reduceSub, reduceCtorEq, RC, Int.cast_ofNat_Int, hn, g0, g1]
  refine hS.eStore 4 rfl [I N, wc] rfl (by simp [hwc.2.1]; rfl) tS27 (by simp) fun H10 hS => ?_
  simp only [List.nil_append, List.cons_append, List.append_nil, List.set_cons_zero, List.set_cons_succ, setMany_cons, setMany_nil, Nat.zero_add, Nat.mul_one, Nat.add_zero] at hS
  repeat first | (with_reducible first | refine Wp.seq ?_ | refine Wp.reg ?_ | refine Wp.block ?_ | refine Wp.skip ?_ | refine Wp.ret ?_ | refine Wp.exit ?_ | refine Wp.label ?_ | refine Wp.condG ?_) | simp (disch := omega) only [↓RP, RQ, TS, TR, ↓reduceIte, Nat.reduceEqDiff, Nat.reduceLT, Nat.reduceLeDiff, Int.reduceLT, Int.reduceLE, Int.reduceEq, Int.reduceAdd, Int.reduceSub, Int.reduceNeg, Int.reduceToNat, Nat.reduceAdd, Nat.reduceMul, Nat.reduceSub, reduceCtorEq, RC, Int.cast_ofNat_Int, hn, g0, g1, hS.ldA 0 rfl]
  refine callFW_of (needed_ok N w es (hS.base hE) (by omega) (by omega) hval) ?_
  have htl : (tE es).length = es.length := by simp [tE]
  have hmid : ∀ (r : Value) (H11 : Heap) (wn e : Value) , True := fun _ _ _ _ => trivial
  rintro r H11 ⟨out, hT, hcase⟩
  have hcase2 : ∃ (wn : Value) (e : Int) (nl : List Nat), nl.length ≤ es.length ∧ r = .tuple #[wn, I e] ∧ St Try.prog H10 H11 [⟨wn, 1, nts nl⟩] ∧ ((e = 0 ∧ nl = ndd es es.length ∧ ∀ n a, ¬ W es (n + 1) a a) ∨ (e = 22 ∧ nl = [] ∧ ∃ n a, W es (n + 1) a a)) := by
    rcases hcase with ⟨ho, wn, rfl, hS2⟩ | ⟨hlt, hst, rfl, hS2⟩
    · refine ⟨wn, 0, _, ndd_le _ _, rfl, hS2, .inl ⟨rfl, rfl, ?_⟩⟩
      intro n x hw
      have hw2 := hw
      obtain ⟨c, _, he⟩ := hw2
      exact hT.around n x (nodup_all hT.nodup hT.lt ho x (hval _ he).2) hw
    · refine ⟨_, 22, [], Nat.zero_le _, rfl, hS2.nil 0, .inr ⟨rfl, rfl, ?_⟩⟩
      apply Classical.byContradiction
      intro hcy
      obtain ⟨i, hi, hr, _⟩ := Top.more hval (fun n a hw => hcy ⟨n, a, hw⟩) hlt
      exact hst i hi hr
  clear hcase hmid
  obtain ⟨wn, e, nl, hnl, rfl, hS2, hcase⟩ := hcase2
  have hS := hS.trans hS2
  simp only [List.nil_append, List.cons_append, List.append_nil, List.set_cons_zero, List.set_cons_succ, setMany_cons, setMany_nil, Nat.zero_add, Nat.mul_one, Nat.add_zero] at hS
  have hwr : Sl2 H11 wr _ _ (tE es) := hS.rd 1 rfl
  have hw0 : Sl2 H11 w _ _ es := hS.base hE
  repeat first | (with_reducible first | refine Wp.seq ?_ | refine Wp.reg ?_ | refine Wp.block ?_ | refine Wp.skip ?_ | refine Wp.ret ?_ | refine Wp.exit ?_ | refine Wp.label ?_ | refine Wp.condG ?_) | simp (disch := omega) only [↓RP, RQ, TS, TR, ↓reduceIte, Nat.reduceEqDiff, Nat.reduceLT, Nat.reduceLeDiff, Int.reduceLT, Int.reduceLE, Int.reduceEq, Int.reduceAdd, Int.reduceSub, Int.reduceNeg, Int.reduceToNat, Nat.reduceAdd, Nat.reduceMul, Nat.reduceSub, reduceCtorEq, RC, Int.cast_ofNat_Int, hn, g0, g1, hS.ld 0 rfl, hS.ld 2 rfl, hS.ld 4 rfl, hwr.len, hw0.len, htl]
  clear hS2
  refine Wp.loopN (fun n l H' => H' = H11 ∧ l.length = 168 ∧ get l 5 = ptr A 0 2 ∧ get l 6 = ptr B 0 2 ∧ get l 8 = ptr C 0 2 ∧ get l 10 = wn ∧ get l 11 = I e ∧ ∃ i : Nat, n + i = es.length ∧ get l 12 = I i) es.length ?_ ?_
  · repeat first | (with_reducible first | refine Wp.seq ?_ | refine Wp.reg ?_ | refine Wp.block ?_ | refine Wp.skip ?_ | refine Wp.ret ?_ | refine Wp.exit ?_ | refine Wp.label ?_ | refine Wp.condG ?_) | simp (disch := omega) only [↓RP, RQ, TS, TR, ↓reduceIte, Nat.reduceEqDiff, Nat.reduceLT, Nat.reduceLeDiff, Int.reduceLT, Int.reduceLE, Int.reduceEq, Int.reduceAdd, Int.reduceSub, Int.reduceNeg, Int.reduceToNat, Nat.reduceAdd, Nat.reduceMul, Nat.reduceSub, reduceCtorEq, RC, Int.cast_ofNat_Int, hn, g0, g1]
    exact ⟨0, rfl, rfl⟩
  clear hn g0 g1
  rintro n l H' ⟨rfl, hn, g5, g6, g8, g10, g11, i, hi, g12⟩
  repeat first | (with_reducible first | refine Wp.seq ?_ | refine Wp.reg ?_ | refine Wp.block ?_ | refine Wp.skip ?_ | refine Wp.ret ?_ | refine Wp.exit ?_ | refine Wp.label ?_ | refine Wp.condG ?_) | simp (disch := omega) only [↓RP, RQ, TS, TR, ↓reduceIte, Nat.reduceEqDiff, Nat.reduceLT, Nat.reduceLeDiff, Int.reduceLT, Int.reduceLE, Int.reduceEq, Int.reduceAdd, Int.reduceSub, Int.reduceNeg, Int.reduceToNat, Nat.reduceAdd, Nat.reduceMul, Nat.reduceSub, reduceCtorEq, RC, Int.cast_ofNat_Int, hn, g5, g6, g8, g10, g11, g12, hS.ld 0 rfl, hw0.len]
  refine condW_split (fun h2 => ?_) (fun _ => ?_)
  · have hil : i < es.length := by omega
    have hte : (tE es).getD i (0, 0) = ((es.getD i (0, 0)).2, (es.getD i (0, 0)).1) := by simp [tE, List.getD_eq_getElem?_getD, hil]
    repeat first | (with_reducible first | refine Wp.seq ?_ | refine Wp.reg ?_ | refine Wp.block ?_ | refine Wp.skip ?_ | refine Wp.ret ?_ | refine Wp.exit ?_ | refine Wp.label ?_ | refine Wp.condG ?_) | with_reducible refine Wp.drw hmix (by kernel_rfl) ?_ | simp (disch := omega) only [↓RP, RQ, TS, TR, ↓reduceIte, Nat.reduceEqDiff, Nat.reduceLT, Nat.reduceLeDiff, Int.reduceLT, Int.reduceLE, Int.reduceEq, Int.reduceAdd, Int.reduceSub, Int.reduceNeg, Int.reduceToNat, Nat.reduceAdd, Nat.reduceMul, Nat.reduceSub, reduceCtorEq, RC, Int.cast_ofNat_Int, hn, g5, g6, g8, g10, g11, g12, hS.ld 0 rfl, hS.ld 2 rfl, hwr.idx, hwr.fld, hwr.ld0 (0, 0), hwr.ld1 (0, 0), hw0.idx, hw0.fld, hw0.ld0 (0, 0), hw0.ld1 (0, 0), htl, hte, wrap_fit]
    exact ⟨n - 1, by omega, i + 1, by omega, rfl⟩
  repeat first | (with_reducible first | refine Wp.seq ?_ | refine Wp.reg ?_ | refine Wp.block ?_ | refine Wp.skip ?_ | refine Wp.ret ?_ | refine Wp.exit ?_ | refine Wp.label ?_ | refine Wp.condG ?_) | simp (disch := omega) only [↓RP, RQ, TS, TR, ↓reduceIte, Nat.reduceEqDiff, Nat.reduceLT, Nat.reduceLeDiff, Int.reduceLT, Int.reduceLE, Int.reduceEq, Int.reduceAdd, Int.reduceSub, Int.reduceNeg, Int.reduceToNat, Nat.reduceAdd, Nat.reduceMul, Nat.reduceSub, reduceCtorEq, RC, Int.cast_ofNat_Int, hn, g5, g6, g8, g10, g11]
  refine Wp.drwT hmix [(1, 4)] (by kernel_rfl) (by kernel_rfl) ?_
  repeat first | (with_reducible first | refine Wp.seq ?_ | refine Wp.reg ?_ | refine Wp.block ?_ | refine Wp.skip ?_ | refine Wp.ret ?_ | refine Wp.exit ?_ | refine Wp.label ?_ | refine Wp.condG ?_) | simp (disch := omega) only [↓RP, RQ, TS, TR, ↓reduceIte, Nat.reduceEqDiff, Nat.reduceLT, Nat.reduceLeDiff, Int.reduceLT, Int.reduceLE, Int.reduceEq, Int.reduceAdd, Int.reduceSub, Int.reduceNeg, Int.reduceToNat, Nat.reduceAdd, Nat.reduceMul, Nat.reduceSub, reduceCtorEq, RC, Int.cast_ofNat_Int, hn, g5, g6, g8, g10, g11, hS.ldA 0 rfl, hS.ld 0 rfl]
  refine callFW_of (edges_ok N w es (hS.base hE) (by omega)) ?_
  rintro ev H12 ⟨hEv, hS2⟩
  have hS7 := hS.trans hS2
  simp only [List.nil_append, List.cons_append, List.append_nil, List.set_cons_zero, List.set_cons_succ, setMany_cons, setMany_nil, Nat.zero_add, Nat.mul_one, Nat.add_zero] at hS7
  repeat first | (with_reducible first | refine Wp.seq ?_ | refine Wp.reg ?_ | refine Wp.block ?_ | refine Wp.skip ?_ | refine Wp.ret ?_ | refine Wp.exit ?_ | refine Wp.label ?_ | refine Wp.condG ?_) | simp (disch := omega) only [↓RP, RQ, TS, TR, ↓reduceIte, Nat.reduceEqDiff, Nat.reduceLT, Nat.reduceLeDiff, Int.reduceLT, Int.reduceLE, Int.reduceEq, Int.reduceAdd, Int.reduceSub, Int.reduceNeg, Int.reduceToNat, Nat.reduceAdd, Nat.reduceMul, Nat.reduceSub, reduceCtorEq, RC, Int.cast_ofNat_Int, hn, g5, g6, g8, g10, g11]
  refine callFW_of (steps_ok N ev es hEv (by omega) (by omega) hval) ?_
  rintro st H13 ⟨ws, rows, hrows, hS2⟩
  have hS8 := ((hS7.trans hS2).nil 1).front
  simp only [List.nil_append, List.cons_append, List.append_nil, List.set_cons_zero, List.set_cons_succ, setMany_cons, setMany_nil, Nat.zero_add, Nat.mul_one, Nat.add_zero] at hS8
  have hrl : (List.range N).length = N := List.length_range
  repeat first | (with_reducible first | refine Wp.seq ?_ | refine Wp.reg ?_ | refine Wp.block ?_ | refine Wp.skip ?_ | refine Wp.ret ?_ | refine Wp.exit ?_ | refine Wp.label ?_ | refine Wp.condG ?_) | simp (disch := omega) only [↓RP, RQ, TS, TR, ↓reduceIte, Nat.reduceEqDiff, Nat.reduceLT, Nat.reduceLeDiff, Int.reduceLT, Int.reduceLE, Int.reduceEq, Int.reduceAdd, Int.reduceSub, Int.reduceNeg, Int.reduceToNat, Nat.reduceAdd, Nat.reduceMul, Nat.reduceSub, reduceCtorEq, RC, Int.cast_ofNat_Int, hn, g5, g6, g8, g10, g11, hS7.ld 0 rfl, hS8.ld 1 rfl]
  clear hS hS7 hS2 hwr hw0
  refine Wp.loopN (fun n l H' => l.length = 168 ∧ get l 5 = ptr A 0 2 ∧ get l 8 = ptr C 0 2 ∧ get l 10 = wn ∧ get l 11 = I e ∧ get l 13 = st ∧ ∃ (i : Nat) (wd : Value), n + i = N ∧ get l 15 = I i ∧ get l 14 = wd ∧
    St Try.prog H2 H' (⟨wd, 2, eg (clo N es ds i)⟩ :: ⟨ptr A 0 2, 0, [I N, w]⟩ :: ⟨wr, 2, eg (tE es)⟩ :: ⟨ptr B 0 2, 0, [I N, wr]⟩ :: ⟨wc, 2, eg (clo N es ds N)⟩ :: ⟨ptr C 0 2, 0, [I N, wc]⟩ :: ⟨wn, 1, nts nl⟩ :: ⟨st, 1, (List.range N).map ws⟩ :: inner N ws rows)) N ?_ ?_
  · repeat first | (with_reducible first | refine Wp.seq ?_ | refine Wp.reg ?_ | refine Wp.block ?_ | refine Wp.skip ?_ | refine Wp.ret ?_ | refine Wp.exit ?_ | refine Wp.label ?_ | refine Wp.condG ?_) | simp (disch := omega) only [↓RP, RQ, TS, TR, ↓reduceIte, Nat.reduceEqDiff, Nat.reduceLT, Nat.reduceLeDiff, Int.reduceLT, Int.reduceLE, Int.reduceEq, Int.reduceAdd, Int.reduceSub, Int.reduceNeg, Int.reduceToNat, Nat.reduceAdd, Nat.reduceMul, Nat.reduceSub, reduceCtorEq, RC, Int.cast_ofNat_Int, hn, g5, g6, g8, g10, g11]
    exact ⟨0, _, rfl, rfl, rfl, hS8⟩
  clear hn g5 g6 g8 g10 g11 hS8
  rintro n l H' ⟨hn, g5, g8, g10, g11, g13, i, wd, hi, g15, g14, hS⟩
  repeat first | (with_reducible first | refine Wp.seq ?_ | refine Wp.reg ?_ | refine Wp.block ?_ | refine Wp.skip ?_ | refine Wp.ret ?_ | refine Wp.exit ?_ | refine Wp.label ?_ | refine Wp.condG ?_) | simp (disch := omega) only [↓RP, RQ, TS, TR, ↓reduceIte, Nat.reduceEqDiff, Nat.reduceLT, Nat.reduceLeDiff, Int.reduceLT, Int.reduceLE, Int.reduceEq, Int.reduceAdd, Int.reduceSub, Int.reduceNeg, Int.reduceToNat, Nat.reduceAdd, Nat.reduceMul, Nat.reduceSub, reduceCtorEq, RC, Int.cast_ofNat_Int, hn, g5, g8, g10, g11, g13, g14, g15, hS.ld 1 rfl]
  refine condW_split (fun h2 => ?_) (fun _ => ?_)
  · have hiN : i < N := by omega
    have hR := hrows i hiN
    have hrowl := hR.len
    have hcl := clo_le2 N es ds i
    have hcm : i * N ≤ 7 * 7 := Nat.mul_le_mul (by omega) (by omega)
    repeat first | (with_reducible first | refine Wp.seq ?_ | refine Wp.reg ?_ | refine Wp.block ?_ | refine Wp.skip ?_ | refine Wp.ret ?_ | refine Wp.exit ?_ | refine Wp.label ?_ | refine Wp.condG ?_) | simp (disch := omega) only [↓RP, RQ, TS, TR, ↓reduceIte, Nat.reduceEqDiff, Nat.reduceLT, Nat.reduceLeDiff, Int.reduceLT, Int.reduceLE, Int.reduceEq, Int.reduceAdd, Int.reduceSub, Int.reduceNeg, Int.reduceToNat, Nat.reduceAdd, Nat.reduceMul, Nat.reduceSub, reduceCtorEq, RC, Int.cast_ofNat_Int, hn, g5, g8, g10, g11, g13, g14, g15]
    have hS := hS.sub (os' := ⟨wd, 2, eg (clo N es ds i ++ clr es ds i 0)⟩ :: ⟨ptr A 0 2, 0, [I N, w]⟩ :: ⟨wr, 2, eg (tE es)⟩ :: ⟨ptr B 0 2, 0, [I N, wr]⟩ :: ⟨wc, 2, eg (clo N es ds N)⟩ :: ⟨ptr C 0 2, 0, [I N, wc]⟩ :: ⟨wn, 1, nts nl⟩ :: ⟨st, 1, (List.range N).map ws⟩ :: inner N ws rows) (by
      rw [show clo N es ds i ++ clr es ds i 0 = clo N es ds i from by simp [clr]]
      exact List.Sublist.refl _)
    refine Wp.loopN (fun m l H' => l.length = 168 ∧ get l 5 = ptr A 0 2 ∧ get l 8 = ptr C 0 2 ∧ get l 10 = wn ∧ get l 11 = I e ∧ get l 13 = st ∧ get l 15 = I i ∧ ∃ (k : Nat) (wd : Value), m + k = N ∧ get l 16 = I k ∧ get l 14 = wd ∧
      St Try.prog H2 H' (⟨wd, 2, eg (clo N es ds i ++ clr es ds i k)⟩ :: ⟨ptr A 0 2, 0, [I N, w]⟩ :: ⟨wr, 2, eg (tE es)⟩ :: ⟨ptr B 0 2, 0, [I N, wr]⟩ :: ⟨wc, 2, eg (clo N es ds N)⟩ :: ⟨ptr C 0 2, 0, [I N, wc]⟩ :: ⟨wn, 1, nts nl⟩ :: ⟨st, 1, (List.range N).map ws⟩ :: inner N ws rows)) N ?_ ?_
    · repeat first | (with_reducible first | refine Wp.seq ?_ | refine Wp.reg ?_ | refine Wp.block ?_ | refine Wp.skip ?_ | refine Wp.ret ?_ | refine Wp.exit ?_ | refine Wp.label ?_ | refine Wp.condG ?_) | simp (disch := omega) only [↓RP, RQ, TS, TR, ↓reduceIte, Nat.reduceEqDiff, Nat.reduceLT, Nat.reduceLeDiff, Int.reduceLT, Int.reduceLE, Int.reduceEq, Int.reduceAdd, Int.reduceSub, Int.reduceNeg, Int.reduceToNat, Nat.reduceAdd, Nat.reduceMul, Nat.reduceSub, reduceCtorEq, RC, Int.cast_ofNat_Int, hn, g5, g8, g10, g11, g13, g14, g15]
      exact ⟨0, _, rfl, rfl, rfl, hS⟩
    clear hn g5 g8 g10 g11 g13 g14 g15 hS
    rintro m l H' ⟨hn, g5, g8, g10, g11, g13, g15, k, wd, hk, g16, g14, hS⟩
    repeat first | (with_reducible first | refine Wp.seq ?_ | refine Wp.reg ?_ | refine Wp.block ?_ | refine Wp.skip ?_ | refine Wp.ret ?_ | refine Wp.exit ?_ | refine Wp.label ?_ | refine Wp.condG ?_) | simp (disch := omega) only [↓RP, RQ, TS, TR, ↓reduceIte, Nat.reduceEqDiff, Nat.reduceLT, Nat.reduceLeDiff, Int.reduceLT, Int.reduceLE, Int.reduceEq, Int.reduceAdd, Int.reduceSub, Int.reduceNeg, Int.reduceToNat, Nat.reduceAdd, Nat.reduceMul, Nat.reduceSub, reduceCtorEq, RC, Int.cast_ofNat_Int, hn, g5, g8, g10, g11, g13, g14, g15, g16, hS.ld 1 rfl]
    refine condW_split (fun h3 => ?_) (fun _ => ?_)
    · have hkN : k < N := by omega
      have hsucc := clr_succ es ds i k
      have hcr := clr_le es ds i k
      rw [hit_steps hval hds i k hkN hR] at hsucc
      have hst : Sl1 H' st ws (List.range N) := hS.rd 7 rfl
      have hrow : Sl1 H' (ws i) (fun n : Nat => I n) (rows i) := hS.rd (i + 8) (inner_get N ws rows _ hiN)
      repeat first | (with_reducible first | refine Wp.seq ?_ | refine Wp.reg ?_ | refine Wp.block ?_ | refine Wp.skip ?_ | refine Wp.ret ?_ | refine Wp.exit ?_ | refine Wp.label ?_ | refine Wp.condG ?_) | simp (disch := omega) only [↓RP, RQ, TS, TR, ↓reduceIte, Nat.reduceEqDiff, Nat.reduceLT, Nat.reduceLeDiff, Int.reduceLT, Int.reduceLE, Int.reduceEq, Int.reduceAdd, Int.reduceSub, Int.reduceNeg, Int.reduceToNat, Nat.reduceAdd, Nat.reduceMul, Nat.reduceSub, reduceCtorEq, RC, Int.cast_ofNat_Int, hn, g5, g8, g10, g11, g13, g14, g15, g16, hst.idx, hst.ld 0, getD_range, hrow.idx, hrow.ld 0]
      refine condW_split (fun h4 => ?_) (fun h4 => ?_)
      · rw [if_pos (decide_eq_true (by omega))] at hsucc
        repeat first | (with_reducible first | refine Wp.seq ?_ | refine Wp.reg ?_ | refine Wp.block ?_ | refine Wp.skip ?_ | refine Wp.ret ?_ | refine Wp.exit ?_ | refine Wp.label ?_ | refine Wp.condG ?_) | simp (disch := omega) only [↓RP, RQ, TS, TR, ↓reduceIte, Nat.reduceEqDiff, Nat.reduceLT, Nat.reduceLeDiff, Int.reduceLT, Int.reduceLE, Int.reduceEq, Int.reduceAdd, Int.reduceSub, Int.reduceNeg, Int.reduceToNat, Nat.reduceAdd, Nat.reduceMul, Nat.reduceSub, reduceCtorEq, RC, Int.cast_ofNat_Int, hn, g5, g8, g10, g11, g13, g14, g15, g16]
        refine hS.eSlice [I _, I _] tP25 tF25 rfl rfl (by simp [Value.cells]) rfl rfl (by decide) (by decide) fun x H3 hS => ?_
        have hS := hS.front
        repeat first | (with_reducible first | refine Wp.seq ?_ | refine Wp.reg ?_ | refine Wp.block ?_ | refine Wp.skip ?_ | refine Wp.ret ?_ | refine Wp.exit ?_ | refine Wp.label ?_ | refine Wp.condG ?_) | simp (disch := omega) only [↓RP, RQ, TS, TR, ↓reduceIte, Nat.reduceEqDiff, Nat.reduceLT, Nat.reduceLeDiff, Int.reduceLT, Int.reduceLE, Int.reduceEq, Int.reduceAdd, Int.reduceSub, Int.reduceNeg, Int.reduceToNat, Nat.reduceAdd, Nat.reduceMul, Nat.reduceSub, reduceCtorEq, RC, Int.cast_ofNat_Int, hn, g5, g8, g10, g11, g13, g14, g15, g16]
        refine hS.eAppend 1 rfl (hS.rd 0 rfl) tP25 (by simp only [eg_length, List.length_append, List.length_cons, List.length_nil]; omega) fun w' H4 hS => ?_
        simp only [List.nil_append, List.cons_append, List.append_nil, List.set_cons_zero, List.set_cons_succ, setMany_cons, setMany_nil, Nat.zero_add, Nat.mul_one, Nat.add_zero] at hS
        repeat first | (with_reducible first | refine Wp.seq ?_ | refine Wp.reg ?_ | refine Wp.block ?_ | refine Wp.skip ?_ | refine Wp.ret ?_ | refine Wp.exit ?_ | refine Wp.label ?_ | refine Wp.condG ?_) | simp (disch := omega) only [↓RP, RQ, TS, TR, ↓reduceIte, Nat.reduceEqDiff, Nat.reduceLT, Nat.reduceLeDiff, Int.reduceLT, Int.reduceLE, Int.reduceEq, Int.reduceAdd, Int.reduceSub, Int.reduceNeg, Int.reduceToNat, Nat.reduceAdd, Nat.reduceMul, Nat.reduceSub, reduceCtorEq, RC, Int.cast_ofNat_Int, hn, g5, g8, g10, g11, g13, g14, g15, g16, wrap_fit]
        refine ⟨m - 1, by omega, k + 1, w', by omega, rfl, rfl, ?_⟩
        rw [hsucc, ← List.append_assoc, show eg (clo N es ds i ++ clr es ds i k ++ [(i, k)]) = eg (clo N es ds i ++ clr es ds i k) ++ [I i, I k] from by unfold eg; rw [List.flatMap_append]; rfl]
        exact hS.tail
      · rw [if_neg (by rw [decide_eq_true_eq]; omega), List.append_nil] at hsucc
        repeat first | (with_reducible first | refine Wp.seq ?_ | refine Wp.reg ?_ | refine Wp.block ?_ | refine Wp.skip ?_ | refine Wp.ret ?_ | refine Wp.exit ?_ | refine Wp.label ?_ | refine Wp.condG ?_) | simp (disch := omega) only [↓RP, RQ, TS, TR, ↓reduceIte, Nat.reduceEqDiff, Nat.reduceLT, Nat.reduceLeDiff, Int.reduceLT, Int.reduceLE, Int.reduceEq, Int.reduceAdd, Int.reduceSub, Int.reduceNeg, Int.reduceToNat, Nat.reduceAdd, Nat.reduceMul, Nat.reduceSub, reduceCtorEq, RC, Int.cast_ofNat_Int, hn, g5, g8, g10, g11, g13, g14, g15, g16, wrap_fit]
        refine ⟨m - 1, by omega, k + 1, wd, by omega, rfl, rfl, ?_⟩
        rw [hsucc]
        exact hS
    · have hke : k = N := by omega
      subst hke
      rw [← clo_succ] at hS
      repeat first | (with_reducible first | refine Wp.seq ?_ | refine Wp.reg ?_ | refine Wp.block ?_ | refine Wp.skip ?_ | refine Wp.ret ?_ | refine Wp.exit ?_ | refine Wp.label ?_ | refine Wp.condG ?_) | simp (disch := omega) only [↓RP, RQ, TS, TR, ↓reduceIte, Nat.reduceEqDiff, Nat.reduceLT, Nat.reduceLeDiff, Int.reduceLT, Int.reduceLE, Int.reduceEq, Int.reduceAdd, Int.reduceSub, Int.reduceNeg, Int.reduceToNat, Nat.reduceAdd, Nat.reduceMul, Nat.reduceSub, reduceCtorEq, RC, Int.cast_ofNat_Int, hn, g5, g8, g10, g11, g13, g14, g15, wrap_fit]
      exact ⟨n - 1, by omega, i + 1, wd, by omega, rfl, rfl, hS⟩
  · have hie : i = N := by omega
    subst hie
    repeat first | (with_reducible first | refine Wp.seq ?_ | refine Wp.reg ?_ | refine Wp.block ?_ | refine Wp.skip ?_ | refine Wp.ret ?_ | refine Wp.exit ?_ | refine Wp.label ?_ | refine Wp.condG ?_) | simp (disch := omega) only [↓RP, RQ, TS, TR, ↓reduceIte, Nat.reduceEqDiff, Nat.reduceLT, Nat.reduceLeDiff, Int.reduceLT, Int.reduceLE, Int.reduceEq, Int.reduceAdd, Int.reduceSub, Int.reduceNeg, Int.reduceToNat, Nat.reduceAdd, Nat.reduceMul, Nat.reduceSub, reduceCtorEq, RC, Int.cast_ofNat_Int, hn, g5, g8, g10, g11, g13, g14, g15, hS.ld 5 rfl]
    refine callFW_of (sameEdges_ok wc wd _ _ (hS.rd 4 rfl) (hS.rd 0 rfl) (by omega)) ?_
    rintro r H5 ⟨rfl, rfl⟩
    rw [decide_eq_true rfl]
    repeat first | (with_reducible first | refine Wp.seq ?_ | refine Wp.reg ?_ | refine Wp.block ?_ | refine Wp.skip ?_ | refine Wp.ret ?_ | refine Wp.exit ?_ | refine Wp.label ?_ | refine Wp.condG ?_) | simp (disch := omega) only [↓RP, RQ, TS, TR, ↓reduceIte, Nat.reduceEqDiff, Nat.reduceLT, Nat.reduceLeDiff, Int.reduceLT, Int.reduceLE, Int.reduceEq, Int.reduceAdd, Int.reduceSub, Int.reduceNeg, Int.reduceToNat, Nat.reduceAdd, Nat.reduceMul, Nat.reduceSub, reduceCtorEq, RC, Int.cast_ofNat_Int, hn, g5, g8, g10, g11]
    refine Wp.drwT hmix [(1, 4)] (by kernel_rfl) (by kernel_rfl) ?_
    repeat first | (with_reducible first | refine Wp.seq ?_ | refine Wp.reg ?_ | refine Wp.block ?_ | refine Wp.skip ?_ | refine Wp.ret ?_ | refine Wp.exit ?_ | refine Wp.label ?_ | refine Wp.condG ?_) | simp (disch := omega) only [↓RP, RQ, TS, TR, ↓reduceIte, Nat.reduceEqDiff, Nat.reduceLT, Nat.reduceLeDiff, Int.reduceLT, Int.reduceLE, Int.reduceEq, Int.reduceAdd, Int.reduceSub, Int.reduceNeg, Int.reduceToNat, Nat.reduceAdd, Nat.reduceMul, Nat.reduceSub, reduceCtorEq, RC, Int.cast_ofNat_Int, hn, g5, g8, g10, g11, hS.ldA 1 rfl, hS.ld 1 rfl]
    refine callFW_of (edges_ok i w es (hS.base hE) (by omega)) ?_
    rintro ev2 H6 ⟨hEv2, hS7⟩
    have hS7 := (hS.trans hS7)
    simp only [List.nil_append, List.cons_append, List.append_nil, List.set_cons_zero, List.set_cons_succ, setMany_cons, setMany_nil, Nat.zero_add, Nat.mul_one, Nat.add_zero] at hS7
    repeat first | (with_reducible first | refine Wp.seq ?_ | refine Wp.reg ?_ | refine Wp.block ?_ | refine Wp.skip ?_ | refine Wp.ret ?_ | refine Wp.exit ?_ | refine Wp.label ?_ | refine Wp.condG ?_) | simp (disch := omega) only [↓RP, RQ, TS, TR, ↓reduceIte, Nat.reduceEqDiff, Nat.reduceLT, Nat.reduceLeDiff, Int.reduceLT, Int.reduceLE, Int.reduceEq, Int.reduceAdd, Int.reduceSub, Int.reduceNeg, Int.reduceToNat, Nat.reduceAdd, Nat.reduceMul, Nat.reduceSub, reduceCtorEq, RC, Int.cast_ofNat_Int, hn, g5, g8, g10, g11]
    refine callFW_of (refCycle_ok i ev2 es hEv2 (by omega) (by omega) hval hdT T) ?_
    rintro rv H8 ⟨b, hMb, hbN, hS8⟩
    have hS8 := (hS7.trans hS8).front
    have hrv : Sl1 H8 rv (fun n : Nat => I n) b := hS8.rd 0 rfl
    have hwn : Sl1 H8 wn (fun n : Nat => I n) nl := hS8.rd 7 rfl
    rcases hcase with ⟨rfl, rfl, hno⟩ | ⟨rfl, rfl, hcy⟩
    · have hbl : ¬ 0 < b.length := fun hh => by
        obtain ⟨n, x, hw⟩ := (cycle_iff T hMb).1 hh
        exact hno n x hw
      have e1 : decide ((0 : Int) < (b.length : Int)) = false := decide_eq_false (by omega)
      repeat first | (with_reducible first | refine Wp.seq ?_ | refine Wp.reg ?_ | refine Wp.block ?_ | refine Wp.skip ?_ | refine Wp.ret ?_ | refine Wp.exit ?_ | refine Wp.label ?_ | refine Wp.condG ?_) | simp (disch := omega) only [↓RP, RQ, TS, TR, ↓reduceIte, Nat.reduceEqDiff, Nat.reduceLT, Nat.reduceLeDiff, Int.reduceLT, Int.reduceLE, Int.reduceEq, Int.reduceAdd, Int.reduceSub, Int.reduceNeg, Int.reduceToNat, Nat.reduceAdd, Nat.reduceMul, Nat.reduceSub, reduceCtorEq, RC, Int.cast_ofNat_Int, hn, g5, g8, g10, g11, hS7.ld 1 rfl, hS8.ld 2 rfl, hrv.len, e1]
      refine Wp.drwT hmix [(5, 8)] (by kernel_rfl) (by kernel_rfl) ?_
      repeat first | (with_reducible first | refine Wp.seq ?_ | refine Wp.reg ?_ | refine Wp.block ?_ | refine Wp.skip ?_ | refine Wp.ret ?_ | refine Wp.exit ?_ | refine Wp.label ?_ | refine Wp.condG ?_) | simp (disch := omega) only [↓RP, RQ, TS, TR, ↓reduceIte, Nat.reduceEqDiff, Nat.reduceLT, Nat.reduceLeDiff, Int.reduceLT, Int.reduceLE, Int.reduceEq, Int.reduceAdd, Int.reduceSub, Int.reduceNeg, Int.reduceToNat, Nat.reduceAdd, Nat.reduceMul, Nat.reduceSub, reduceCtorEq, RC, Int.cast_ofNat_Int, hn, g5, g8, g10, g11, hS8.ldA 2 rfl, hS8.ld 2 rfl]
      refine callFW_of (edges_ok i w es (hS8.base hE) (by omega)) ?_
      rintro ev3 H9 ⟨hEv3, hS9⟩
      have hS9 := hS8.trans hS9
      rw [List.append_nil] at hS9
      repeat first | (with_reducible first | refine Wp.seq ?_ | refine Wp.reg ?_ | refine Wp.block ?_ | refine Wp.skip ?_ | refine Wp.ret ?_ | refine Wp.exit ?_ | refine Wp.label ?_ | refine Wp.condG ?_) | simp (disch := omega) only [↓RP, RQ, TS, TR, ↓reduceIte, Nat.reduceEqDiff, Nat.reduceLT, Nat.reduceLeDiff, Int.reduceLT, Int.reduceLE, Int.reduceEq, Int.reduceAdd, Int.reduceSub, Int.reduceNeg, Int.reduceToNat, Nat.reduceAdd, Nat.reduceMul, Nat.reduceSub, reduceCtorEq, RC, Int.cast_ofNat_Int, hn, g5, g8, g10, g11]
      refine callFW_of (refNeeded_ok i ev3 es hEv3 (by omega) (by omega) hval) ?_
      rintro r3 H10 hS10
      have hS10 := (hS9.trans hS10).front
      have h1 : Sl1 H10 wn (fun n : Nat => I n) (ndd es es.length) := hS10.rd 8 rfl
      have h2 : Sl1 H10 r3 (fun n : Nat => I n) (ndd es es.length) := hS10.rd 0 rfl
      repeat first | (with_reducible first | refine Wp.seq ?_ | refine Wp.reg ?_ | refine Wp.block ?_ | refine Wp.skip ?_ | refine Wp.ret ?_ | refine Wp.exit ?_ | refine Wp.label ?_ | refine Wp.condG ?_) | simp (disch := omega) only [↓RP, RQ, TS, TR, ↓reduceIte, Nat.reduceEqDiff, Nat.reduceLT, Nat.reduceLeDiff, Int.reduceLT, Int.reduceLE, Int.reduceEq, Int.reduceAdd, Int.reduceSub, Int.reduceNeg, Int.reduceToNat, Nat.reduceAdd, Nat.reduceMul, Nat.reduceSub, reduceCtorEq, RC, Int.cast_ofNat_Int, hn, g5, g8, g10, g11]
      refine callFW_of (same_ok wn r3 ((ndd es es.length).map Nat.cast) ((ndd es es.length).map Nat.cast) ?_ ?_ (by rw [List.length_map]; omega)) ?_
      · unfold Sl1
        rw [List.map_map]
        exact h1
      · unfold Sl1
        rw [List.map_map]
        exact h2
      rintro r H11 ⟨rfl, rfl⟩
      rw [decide_eq_true rfl]
      repeat first | (with_reducible first | refine Wp.seq ?_ | refine Wp.reg ?_ | refine Wp.block ?_ | refine Wp.skip ?_ | refine Wp.ret ?_ | refine Wp.exit ?_ | refine Wp.label ?_ | refine Wp.condG ?_) | simp (disch := omega) only [↓RP, RQ, TS, TR, ↓reduceIte, Nat.reduceEqDiff, Nat.reduceLT, Nat.reduceLeDiff, Int.reduceLT, Int.reduceLE, Int.reduceEq, Int.reduceAdd, Int.reduceSub, Int.reduceNeg, Int.reduceToNat, Nat.reduceAdd, Nat.reduceMul, Nat.reduceSub, reduceCtorEq, RC, Int.cast_ofNat_Int, hn, g5, g8, g10, g11, rdW_someG, hS9.ld 2 rfl]
    · have hbl := (cycle_iff T hMb).2 hcy
      have e1 : decide ((0 : Int) < (b.length : Int)) = true := decide_eq_true (by omega)
      repeat first | (with_reducible first | refine Wp.seq ?_ | refine Wp.reg ?_ | refine Wp.block ?_ | refine Wp.skip ?_ | refine Wp.ret ?_ | refine Wp.exit ?_ | refine Wp.label ?_ | refine Wp.condG ?_) | simp (disch := omega) only [↓RP, RQ, TS, TR, ↓reduceIte, Nat.reduceEqDiff, Nat.reduceLT, Nat.reduceLeDiff, Int.reduceLT, Int.reduceLE, Int.reduceEq, Int.reduceAdd, Int.reduceSub, Int.reduceNeg, Int.reduceToNat, Nat.reduceAdd, Nat.reduceMul, Nat.reduceSub, reduceCtorEq, RC, Int.cast_ofNat_Int, hn, g5, g8, g10, g11, hS7.ld 1 rfl, hS8.ld 2 rfl, hrv.len, e1, hwn.len]
end Go.Ds
/-
  Ds: from the model's world to a heap of ours, and back.
-/
namespace Go.Ds
open Go.RowKit
section
variable {P : Program} {H : Heap}

theorem CallOk.calls {ρ : Rho} {w : World} {f : FuncId} {args : List Value} {v : Value} {H' : Heap} (h : CallOk P f args H v H') {args' : Array Value} (hr : HRel P ρ H w) (ha : All2 (V ρ) args args'.toList) :
    Calls P f args' w fun e w' => ∃ ρ' v', e = .returned v' ∧ Post P ρ H w ρ' H' w' ∧ V ρ' v v' :=
  (h 0 ρ w args' hr ha).calls fun k => by intro d h; cases h

/-- Nothing of what came in may be written. -/
def Shut (ρ : Rho) (H : Heap) : Prop := ∀ b, ¬ Wr ρ H b

theorem Fn.calls {ρ : Rho} {w : World} {f : FuncId} {args : List Value} {b : Bool} (h : Fn P f args H fun v _ => v = .bool b) {args' : Array Value} (hr : HRel P ρ H w) (hs : Shut ρ H) (ha : All2 (V ρ) args args'.toList) :
    Calls P f args' w fun e w' => e = .returned (.bool b) ∧ Below w.heap.size w w' := by
  obtain ⟨_, v, H1, h1, rfl⟩ := h
  refine (h1.calls hr ha).mono ?_
  rintro e w' ⟨ρ', v', rfl, hp, hv⟩
  refine ⟨?_, hp.os, hp.tape, hp.output, hp.size, fun k hk => (hp.frame k hk (hs k)).1⟩
  rw [hv.eq_of_flat rfl]

theorem HRel.none (w : World) : HRel P (fun _ _ => Option.none) .nil w := .empty w
theorem Shut.none : Shut (fun _ _ => Option.none) .nil := fun b ⟨A, e, p, blk, h, _⟩ => by cases h

/-- One slice that came in, to be read. -/
theorem HRel.input {w : World} {b off len cap size : Nat} {cur : Array Value} {t' : TypeId} {fr : Nat × Nat} (hb : w.heap[b]? = some (.cells cur t' fr)) {ty : TypeId} (hty : sizeP P ty = some size) (hl : len ≤ cap) (hsz : cap = 0 ∨ off + cap * size ≤ cur.size)
    (cs : List Value) (hcs : cs.length = len * size) (hcell : ∀ i, i < cs.length → cur[off + i]? = cs[i]?) (hflat : ∀ c ∈ cs, scalar c = true) :
    ∃ (ρ : Rho) (H : Heap) (v : Value), HRel P ρ H w ∧ Shut ρ H ∧ V ρ v (.slice (some ⟨b, off, Option.none⟩) len cap) ∧ RdAt H v size cs := by
  let d : Int := if cap = 0 then 0 else off
  let p : Place := ⟨b, d, cur.size, size⟩
  have hg : hget (Heap.nil.cons (.cells cs ty false 0 0)) 0 = some (.cells cs ty false 0 0) := hget_cons_new Heap.nil _
  have hlen1 : (Heap.nil.cons (.cells cs ty false 0 0)).length = 1 := by rw [cons_eq]; rfl
  have hA : ∀ A blk, hget (Heap.nil.cons (.cells cs ty false 0 0)) A = some blk → A = 0 ∧ blk = .cells cs ty false 0 0 := by
    intro A blk h
    have : A < 1 := by rw [← hlen1]; exact hget_lt h
    obtain rfl : A = 0 := by omega
    rw [hg] at h
    exact ⟨rfl, (Option.some.inj h).symm⟩
  refine ⟨fun A e => if A = 0 ∧ e = cs.length then some p else Option.none, Heap.nil.cons (.cells cs ty false 0 0), .slice (some ⟨0, 0, some cs.length⟩) len size, ?_, ?_, ?_, ?_⟩
  · have hρ : ∀ A e q, (if A = 0 ∧ e = cs.length then some p else Option.none) = some q → A = 0 ∧ e = cs.length ∧ q = p := by
      intro A e q h
      split at h
      · rename_i hh; exact ⟨hh.1, hh.2, (Option.some.inj h).symm⟩
      · cases h
    refine ⟨?_, ?_, ?_, ?_, ?_, ?_, ?_⟩
    · intro A e q h
      obtain ⟨rfl, rfl, rfl⟩ := hρ _ _ _ h
      exact ⟨by rw [hlen1]; omega, blk_lt hb⟩
    · intro A cs' ty' rw' lo ver h
      obtain ⟨rfl, he⟩ := hA _ _ h
      cases he
      refine ⟨⟨p, by simp⟩, ?_⟩
      intro e q hq
      obtain ⟨_, rfl, rfl⟩ := hρ _ _ _ hq
      refine ⟨Nat.le_refl _, hty, ?_, cur, t', fr, hb, rfl, (fun h => by cases h), ?_⟩
      · show ((cs.length : Nat) : Int) + d ≤ cur.size
        rcases hsz with h0 | h0
        · have : len = 0 := by omega
          subst this
          simp only [d, if_pos h0]
          rw [hcs]; simp
        · simp only [d]
          split
          · rename_i hc
            have : len = 0 := by omega
            subst this
            rw [hcs]; simp
          · have : len * size ≤ cap * size := Nat.mul_le_mul_right _ hl
            omega
      · intro _ i c hi h0 hc
        have hcap : cap ≠ 0 := fun hc0 => by
          have : len = 0 := by omega
          subst this
          simp at hcs
          simp [hcs] at hi
        have hat : p.at i = off + i := by
          simp only [Place.at, p, d, if_neg hcap]
          omega
        refine ⟨c, by rw [hat, hcell i hi, hc], .of_scalar (hflat c (List.mem_of_getElem? hc))⟩
    · intro A es ck ver h
      have := (hA _ _ h).2; cases this
    · intro A r h
      have := (hA _ _ h).2; cases this
    · intro A e q blk h hblk
      rw [(hA _ _ hblk).2]; exact .inl rfl
    · intro A e q A2 e2 q2 blk h h2 _ hblk hw
      rw [(hA _ _ hblk).2] at hw; cases hw
    · intro A h
      rw [hlen1] at h
      obtain rfl : A = 0 := by omega
      rw [hg]; rfl
  · rintro b' ⟨A, e, q, blk, h, _, hblk, hw⟩
    rw [(hA _ _ hblk).2] at hw; cases hw
  · refine .v1 (.c1 (.c0 ?_))
    have h1 : (fun A e => if A = 0 ∧ e = cs.length then some p else Option.none : Rho) 0 cs.length = some p := by simp
    refine C0.slice (p := p) h1 ?_ ?_ hl ?_
    · show (0 : Int) ≤ ((0 : Nat) : Int) + d
      simp only [d]; split <;> omega
    · show 0 + len * size ≤ cs.length
      omega
    · rcases hsz with h0 | h0
      · exact .inr ⟨by omega, h0⟩
      · by_cases hc : cap = 0
        · exact .inr ⟨by omega, hc⟩
        · left
          have hat : p.at 0 = off := by simp only [Place.at, p, d, if_neg hc]; omega
          rw [hat]
          exact ⟨rfl, h0⟩
  · refine .inr ⟨0, 0, cs.length, cs, ty, false, 0, 0, len, hg, Nat.zero_le _, Nat.le_refl _, by omega, by simp, hcs, rfl⟩
end
end Go.Ds
/-
  A described graph's links, as they come in.
-/
namespace Go.Ds
open Go.Proofs Go.ChangeShapes Go.WideShapes Go.RowKit

def numN (v : Value) : Nat := match v with | .int _ n => n.toNat | _ => 0

theorem cell_at {w : World} {b off j : Nat} {v : Value} {cur : Array Value} {t : TypeId} {fr : Nat × Nat} (hb : w.heap[b]? = some (.cells cur t fr)) (h : w.cell? ((⟨b, off, none⟩ : Addr).add j) = some v) : cur[off + j]? = some v := by
  have e : (⟨b, off, none⟩ : Addr).add j = ⟨b, off + j, none⟩ := by
    unfold Addr.add
    split
    · rename_i h0; subst h0; rfl
    · rfl
  rw [e] at h
  simp only [World.cell?, hb] at h
  simpa using h

theorem u8_of {H : Type} {enc : TypeId × Value → H} {w : World} {base : Nat} {spare : Nat → Bool} {held : Bool} {n : Nat} {v : Value} {x : DataW H × List MemPlace} (h : DataW.trod enc Try.prog w base spare held n 5 [v] = some x) : v = U (numN v) ∧ numN v < 256 := by
  obtain ⟨m, hv, _, hw⟩ := DataW.trod_int Try.underlying5 h
  have hv : v = .int .u8 m := by simpa using hv
  subst hv
  have hm : 0 ≤ m ∧ m ≤ 255 := by simpa [Lit.wf, IntKind.min, IntKind.max, IntKind.signed, IntKind.bits] using hw
  simp only [numN]
  refine ⟨?_, by omega⟩
  rw [Int.toNat_of_nonneg hm.1]

theorem flat2_get {α : Type} (f g : α → Value) (xs : List α) (j : Nat) (hj : j < xs.length) (d : α) : (xs.flatMap fun x => [f x, g x])[j * 2]? = some (f (xs.getD j d)) ∧ (xs.flatMap fun x => [f x, g x])[j * 2 + 1]? = some (g (xs.getD j d)) := by
  have := Sl2.drop (f := f) (g := g) j hj d
  constructor
  · have h2 : ((xs.flatMap fun x => [f x, g x]).drop (j * 2))[0]? = some (f (xs.getD j d)) := by rw [this]; rfl
    rwa [List.getElem?_drop] at h2
  · have h2 : ((xs.flatMap fun x => [f x, g x]).drop (j * 2))[1]? = some (g (xs.getD j d)) := by rw [this]; rfl
    rwa [List.getElem?_drop] at h2

theorem ce60 : Try.prog.cellsOf 60 = 2 := by kernel_rfl
theorem ce5 : Try.prog.cellsOf 5 = 1 := by kernel_rfl
set_option maxRecDepth 100000 in
theorem links_in {H : Type} {enc : TypeId × Value → H} {W : World} {base b0 : Nat} {v0 : Value} {d0 : DataW H} {p0 : List MemPlace} (h0 : DataW.Trod enc Try.prog W base (fun _ => true) true 22 v0 d0 p0) (hval : Value.okWide Try.prog W .any b0 22 v0) :
    ∃ (ρ : Rho) (H : Heap) (v : Value) (ls : List (Nat × Nat)), HRel Try.prog ρ H W ∧ Shut ρ H ∧ V ρ v v0 ∧ Lk H v ls ∧ ∀ x ∈ ls, x.1 < 256 ∧ x.2 < 256 := by
  obtain ⟨a0, len, cap, rfl⟩ := okWide_slice Try.underlying22 hval
  obtain ⟨fuel, hf⟩ := h0
  rcases Go.Deep.open_slice_pairs Try.underlying22 Try.underlying60 ce60 rfl rfl ce5 ce5 hf with ⟨hcs, _⟩ | ⟨a, len', cap', m, n, V0, V1, D0, D1, P0, P1, hcs, _, hl, _, hmm, _, hcell⟩
  · simp [Value.cells] at hcs
    obtain ⟨rfl, rfl, rfl⟩ := hcs
    exact ⟨_, _, .slice none 0 0, [], .none W, .none, .of_flat rfl, .inl ⟨rfl, rfl⟩, by simp⟩
  · simp [Value.cells] at hcs
    obtain ⟨h1, h2, h3⟩ := hcs
    subst h1
    simp only [if_true] at hmm
    rw [← h2, ← h3] at hl
    rw [← h3] at hmm
    rw [hmm] at hcell
    clear h2 h3 hmm
    simp only [Value.okWide, Try.underlying22, Cell.okWide, Cell.ok] at hval
    obtain ⟨_, _, _, hspot, row, cells, hshape, _⟩ := hval
    obtain ⟨b, off, spot⟩ := a
    simp only at hspot hshape
    subst hspot
    unfold World.shape? at hshape
    split at hshape
    case h_2 => cases hshape
    rename_i cur t' fr hb
    have hc0 : ∀ i, i < cap → cur[off + i * 2]? = some (V0 i) := fun i hi => cell_at hb (hcell i hi).1
    have hc1 : ∀ i, i < cap → cur[off + (i * 2 + 1)]? = some (V1 i) := fun i hi => cell_at hb (hcell i hi).2.1
    have hu0 : ∀ i, i < cap → V0 i = U (numN (V0 i)) ∧ numN (V0 i) < 256 := fun i hi => u8_of (hcell i hi).2.2.1
    have hu1 : ∀ i, i < cap → V1 i = U (numN (V1 i)) ∧ numN (V1 i) < 256 := fun i hi => u8_of (hcell i hi).2.2.2
    let ls : List (Nat × Nat) := (List.range len).map fun i => (numN (V0 i), numN (V1 i))
    have hll : ls.length = len := by simp [ls]
    have hlg : ∀ i, i < len → ls.getD i (0, 0) = (numN (V0 i), numN (V1 i)) := fun i hi => by simp [ls, List.getD_eq_getElem?_getD, hi]
    have hsz : cap = 0 ∨ off + cap * 2 ≤ cur.size := by
      by_cases h0 : cap = 0
      · exact .inl h0
      · right
        have := (Array.getElem?_eq_some_iff.1 (hc1 (cap - 1) (by omega))).1
        omega
    obtain ⟨ρ, H', v, h1, h2, h3, h4⟩ := HRel.input (P := Try.prog) hb tS60 hl hsz (ls.flatMap fun e => [U e.1, U e.2]) (by rw [flat2_length, hll]) (by
      intro i hi
      rw [flat2_length, hll] at hi
      have hj : i / 2 < len := by omega
      have hg := flat2_get (fun e : Nat × Nat => U e.1) (fun e => U e.2) ls (i / 2) (by rw [hll]; exact hj) (0, 0)
      rw [hlg _ hj] at hg
      by_cases hp : i % 2 = 0
      · have e : i = i / 2 * 2 := by omega
        rw [e, hg.1, hc0 _ (by omega)]
        exact congrArg some (hu0 _ (by omega)).1
      · have e : i = i / 2 * 2 + 1 := by omega
        rw [e, hg.2, hc1 _ (by omega)]
        exact congrArg some (hu1 _ (by omega)).1) (by
      intro c hc
      obtain ⟨x, _, hx⟩ := List.mem_flatMap.1 hc
      simp only [List.mem_cons, List.not_mem_nil, or_false] at hx
      rcases hx with rfl | rfl <;> rfl)
    refine ⟨ρ, H', v, ls, h1, h2, h3, h4, ?_⟩
    intro x hx
    obtain ⟨i, hi, rfl⟩ := List.mem_map.1 hx
    have := List.mem_range.1 hi
    exact ⟨(hu0 i (by omega)).2, (hu1 i (by omega)).2⟩

theorem u8_in {w : Int} (h : (Lit.int .u8 w).wf = true) : ∃ n : Nat, n < 256 ∧ w = n := by
  have hm : 0 ≤ w ∧ w ≤ 255 := by simpa [Lit.wf, IntKind.min, IntKind.max, IntKind.signed, IntKind.bits] using h
  exact ⟨w.toNat, by omega, by omega⟩
end Go.Ds
