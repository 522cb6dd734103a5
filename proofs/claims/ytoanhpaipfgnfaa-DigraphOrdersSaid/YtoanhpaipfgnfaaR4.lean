/-
  Plain: what the law on Reach and Distance compares.
-/
import Derived.Test.YtoanhpaipfgnfaaQ
set_option linter.unusedVariables false
set_option linter.unusedSimpArgs false
namespace Go.Plain

theorem IsD.eq {es : List (Nat × Nat)} {N s : Nat} {d d' : List Int} (h : IsD es N s d) (h' : IsD es N s d') : d = d' := by
  apply List.ext_getElem (by rw [h.len, h'.len])
  intro k hk hk'
  have hkN : k < N := by rw [← h.len]; exact hk
  have e1 : d[k] = d.getD k 0 := by simp [List.getD_eq_getElem?_getD, hk]
  have e2 : d'[k] = d'.getD k 0 := by simp [List.getD_eq_getElem?_getD, hk']
  rw [e1, e2]
  by_cases h1 : d.getD k 0 < 0
  · have a1 := h.neg k hkN h1
    by_cases h2 : d'.getD k 0 < 0
    · rw [a1.1, (h'.neg k hkN h2).1]
    · exact (a1.2 _ (h'.pos k hkN (by omega)).1).elim
  · have a1 := h.pos k hkN (by omega)
    by_cases h2 : d'.getD k 0 < 0
    · exact ((h'.neg k hkN h2).2 _ a1.1).elim
    · have a2 := h'.pos k hkN (by omega)
      have b1 := a1.2 _ a2.1
      have b2 := a2.2 _ a1.1
      omega

theorem want_eq {es : List (Nat × Nat)} {N s : Nat} {d : List Int} {row : List Nat} (h : IsD es N s d) (hr : IsS es N s row) (i : Nat) (hi : i < N) :
    d.getD i 0 = if i = s then 0 else if row.getD i 0 = 0 then -1 else (row.getD i 0 : Int) := by
  split
  · rename_i e
    by_cases h1 : d.getD i 0 < 0
    · exact ((h.neg i hi h1).2 0 e.symm).elim
    · have := (h.pos i hi (by omega)).2 0 e.symm
      omega
  · rename_i e
    split
    · rename_i h0
      by_cases h1 : d.getD i 0 < 0
      · exact (h.neg i hi h1).1
      · have a := (h.pos i hi (by omega)).1
        cases hm : (d.getD i 0).toNat with
        | zero => rw [hm] at a; exact (e a.symm).elim
        | succ m => rw [hm] at a; exact (hr.zero i hi h0 m a).elim
    · rename_i h0
      have a := hr.pos i hi (by omega)
      by_cases h1 : d.getD i 0 < 0
      · exact ((h.neg i hi h1).2 _ a.1).elim
      · have b := h.pos i hi (by omega)
        have c := b.2 _ a.1
        cases hm : (d.getD i 0).toNat with
        | zero => rw [hm] at b; exact (e b.1.symm).elim
        | succ m =>
          rw [hm] at b
          have := a.2 m b.1
          omega

/-- The chosen numbers below a bound. -/
theorem filter_at (p : Nat → Bool) (N i : Nat) (hi : i < N) (hp : p i = true) : ((List.range i).filter p).length < ((List.range N).filter p).length ∧ ((List.range N).filter p).getD ((List.range i).filter p).length 0 = i := by
  have e : List.range N = List.range i ++ i :: (List.range' (i + 1) (N - (i + 1))) := by
    have : i :: (List.range' (i + 1) (N - (i + 1))) = List.range' i (N - i) := by
      rw [← List.range'_succ]
      congr 1
      omega
    have h2 := List.range'_append_1 (s := 0) (m := i) (n := N - i)
    rw [Nat.zero_add, show i + (N - i) = N from by omega] at h2
    rw [this, List.range_eq_range', List.range_eq_range', h2]
  rw [e, List.filter_append, List.filter_cons, hp]
  simp [List.getD_eq_getElem?_getD]
end Go.Plain
