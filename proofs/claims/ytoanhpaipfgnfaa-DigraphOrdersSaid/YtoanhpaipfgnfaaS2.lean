/-
  Plain graphs: the reference's way is the program's.
-/
import Derived.Test.YtoanhpaipfgnfaaS
set_option linter.unusedVariables false
set_option linter.unusedSimpArgs false
namespace Go.Plain

theorem W_cons {es : List (Nat × Nat)} : ∀ {n a b : Nat}, W es (n + 1) a b ↔ ∃ c, (a, c) ∈ es ∧ W es n c b
  | 0, a, b => by
    constructor
    · rintro ⟨c, hc, h⟩
      have : a = c := hc
      subst this
      exact ⟨b, h, rfl⟩
    · rintro ⟨c, h, hc⟩
      have : c = b := hc
      subst this
      exact ⟨a, rfl, h⟩
  | n + 1, a, b => by
    constructor
    · rintro ⟨c, hc, h⟩
      obtain ⟨c', h1, h2⟩ := W_cons.1 hc
      exact ⟨c', h1, c, h2, h⟩
    · rintro ⟨c, h, c', h1, h2⟩
      exact ⟨c', W_cons.2 ⟨c, h, h1⟩, h2⟩

theorem W_rev {es : List (Nat × Nat)} : ∀ {n a b : Nat}, W (tE es) n a b ↔ W es n b a
  | 0, a, b => by constructor <;> (intro h; exact Eq.symm h)
  | n + 1, a, b => by
    rw [W_cons]
    constructor
    · rintro ⟨c, h1, h2⟩
      exact ⟨c, W_rev.1 h2, mem_tE.1 h1⟩
    · rintro ⟨c, h1, h2⟩
      exact ⟨c, mem_tE.2 h2, W_rev.2 h1⟩

section
variable {es : List (Nat × Nat)} {N t : Nat} {d : List Int} {rows : Nat → List Nat}

theorem IsD.self (hd : IsD (tE es) N t d) (ht : t < N) : d.getD t 0 = 0 := by
  by_cases h : d.getD t 0 < 0
  · exact ((hd.neg t ht h).2 0 rfl).elim
  · have := (hd.pos t ht (by omega)).2 0 rfl
    omega

theorem IsD.zero (hd : IsD (tE es) N t d) {i : Nat} (hi : i < N) (h : d.getD i 0 = 0) : i = t := by
  have := (hd.pos i hi (by omega)).1
  rw [h] at this
  exact Eq.symm this

/-- A way of at least one edge: the table of steps has what the table of distances has. -/
theorem steps_eq (hd : IsD (tE es) N t d) (hr : ∀ i, i < N → IsS es N i (rows i)) (ht : t < N) {i : Nat} (hi : i < N) (hit : i ≠ t) : d.getD i 0 = if (rows i).getD t 0 = 0 then -1 else ((rows i).getD t 0 : Int) := by
  split
  · rename_i h0
    by_cases h : d.getD i 0 < 0
    · exact (hd.neg i hi h).1
    · have h1 := (hd.pos i hi (by omega)).1
      cases hm : (d.getD i 0).toNat with
      | zero => rw [hm] at h1; exact (hit (Eq.symm h1)).elim
      | succ m => rw [hm] at h1; exact ((hr i hi).zero t ht h0 m (W_rev.1 h1)).elim
  · rename_i h0
    have h1 := (hr i hi).pos t ht (by omega)
    by_cases h : d.getD i 0 < 0
    · exact ((hd.neg i hi h).2 _ (W_rev.2 h1.1)).elim
    · have h2 := hd.pos i hi (by omega)
      have h3 := h2.2 _ (W_rev.2 h1.1)
      cases hm : (d.getD i 0).toNat with
      | zero => rw [hm] at h2; exact (hit (Eq.symm h2.1)).elim
      | succ m =>
        rw [hm] at h2
        have h4 := h1.2 m (W_rev.1 h2.1)
        omega

/-- What the reference asks of an edge. -/
theorem ref_mt (hd : IsD (tE es) N t d) (hr : ∀ i, i < N → IsS es N i (rows i)) (hv : ∀ e ∈ es, e.1 < N ∧ e.2 < N) (ht : t < N) {e : Nat × Nat} (he : e ∈ es) {m : Nat} (hm : d.getD e.1 0 = (m + 1 : Nat)) :
    d.getD e.2 0 = (m : Int) ↔ (m = 0 ∧ e.2 = t) ∨ (0 < m ∧ (rows e.2).getD t 0 = m) := by
  have h1 := (hv e he).1
  have h2 := (hv e he).2
  cases m with
  | zero =>
    constructor
    · intro h
      exact .inl ⟨rfl, hd.zero h2 h⟩
    · rintro (⟨_, h⟩ | ⟨h, _⟩)
      · rw [h]; exact hd.self ht
      · omega
  | succ m =>
    have hne : e.2 ≠ t := by
      intro h
      have h3 := (hd.pos e.1 h1 (by omega)).2 1 ⟨t, rfl, mem_tE.2 (by rw [← h]; exact he)⟩
      omega
    have h3 := steps_eq hd hr ht h2 hne
    rw [h3]
    constructor
    · intro h
      right
      refine ⟨by omega, ?_⟩
      split at h <;> omega
    · rintro (⟨h, _⟩ | ⟨_, h⟩)
      · omega
      · rw [if_neg (by omega), h]
end
end Go.Plain
