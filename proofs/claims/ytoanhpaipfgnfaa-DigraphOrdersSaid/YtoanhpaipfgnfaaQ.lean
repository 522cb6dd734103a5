/-
  Plain graphs: the reference's table of steps, by relaxing edges until nothing changes.
-/
import Derived.Test.YtoanhpaipfgnfaaP
set_option linter.unusedVariables false
set_option linter.unusedSimpArgs false
namespace Go.Plain

/-- A row of least numbers of edges, at least one, from a node; 0 where none lead. -/
structure IsS (es : List (Nat × Nat)) (N i : Nat) (row : List Nat) : Prop where
  len : row.length = N
  zero : ∀ k, k < N → row.getD k 0 = 0 → ∀ n, ¬ W es (n + 1) i k
  pos : ∀ k, k < N → 0 < row.getD k 0 → W es (row.getD k 0) i k ∧ ∀ n, W es (n + 1) i k → row.getD k 0 ≤ n + 1

def nz (row : List Nat) : Nat := row.countP (fun x => decide (0 < x))
def wt (N : Nat) (row : List Nat) : Nat := (row.map fun x => if x = 0 then N + 1 else x).sum

/-- What an edge offers its target. -/
def offer (i : Nat) (row : List Nat) (e : Nat × Nat) : Nat := if e.1 = i then 1 else if 0 < row.getD e.1 0 then row.getD e.1 0 + 1 else 0
def better (i : Nat) (row : List Nat) (e : Nat × Nat) : Prop := 0 < offer i row e ∧ (row.getD e.2 0 = 0 ∨ offer i row e < row.getD e.2 0)

structure RI (es : List (Nat × Nat)) (N i : Nat) (row : List Nat) : Prop where
  len : row.length = N
  walk : ∀ k, k < N → 0 < row.getD k 0 → W es (row.getD k 0) i k
  small : ∀ k, k < N → row.getD k 0 ≤ nz row

theorem getD_setN (d : List Nat) (t v k : Nat) (ht : t < d.length) : (d.set t v).getD k 0 = if k = t then v else d.getD k 0 := by
  simp only [List.getD_eq_getElem?_getD, List.getElem?_set]
  by_cases h : t = k
  · subst h; simp [ht]
  · simp [h, Ne.symm h]

theorem nz_set (d : List Nat) (t v : Nat) (ht : t < d.length) (hv : 0 < v) : nz (d.set t v) = nz d + if d.getD t 0 = 0 then 1 else 0 := by
  induction d generalizing t with
  | nil => simp at ht
  | cons a d ih =>
    cases t with
    | zero =>
      simp only [nz, List.set_cons_zero, List.countP_cons, List.getD_cons_zero, hv]
      by_cases h : a = 0
      · simp [h]
      · have : 0 < a := by omega
        simp [h, this]
    | succ t =>
      have := ih t (by simpa using ht)
      simp only [nz, List.set_cons_succ, List.countP_cons, List.getD_cons_succ] at this ⊢
      omega

theorem wt_set (N : Nat) (d : List Nat) (t v : Nat) (ht : t < d.length) (hv : 0 < v) : wt N (d.set t v) + (if d.getD t 0 = 0 then N + 1 else d.getD t 0) = wt N d + v := by
  induction d generalizing t with
  | nil => simp at ht
  | cons a d ih =>
    cases t with
    | zero =>
      have : v ≠ 0 := by omega
      simp only [wt, List.set_cons_zero, List.map_cons, List.sum_cons, List.getD_cons_zero, this, if_false]
      omega
    | succ t =>
      have := ih t (by simpa using ht)
      simp only [wt, List.set_cons_succ, List.map_cons, List.sum_cons, List.getD_cons_succ] at this ⊢
      omega

theorem nz_le (d : List Nat) : nz d ≤ d.length := List.countP_le_length

theorem RI.offer_le {es : List (Nat × Nat)} {N i : Nat} {row : List Nat} (h : RI es N i row) (e : Nat × Nat) (he : e.1 < N) : offer i row e ≤ nz row + 1 := by
  unfold offer
  have := h.small e.1 he
  split
  · omega
  · split <;> omega

theorem RI.step {es : List (Nat × Nat)} {N i : Nat} {row : List Nat} (h : RI es N i row) (e : Nat × Nat) (he : e ∈ es) (h1 : e.1 < N) (h2 : e.2 < N) (hb : better i row e) :
    RI es N i (row.set e.2 (offer i row e)) ∧ wt N (row.set e.2 (offer i row e)) < wt N row := by
  have hl : e.2 < row.length := by rw [h.len]; exact h2
  have hg := fun k => getD_setN row e.2 (offer i row e) k hl
  have hnz := nz_set row e.2 (offer i row e) hl hb.1
  have hwt := wt_set N row e.2 (offer i row e) hl hb.1
  have hoff := h.offer_le e h1
  have hN := nz_le row
  rw [h.len] at hN
  have hw : W es (offer i row e) i e.2 := by
    unfold offer
    split
    · rename_i hh
      exact ⟨i, rfl, by rw [← hh]; exact he⟩
    · split
      · rename_i h3 h4
        exact ⟨e.1, h.walk e.1 h1 h4, he⟩
      · rename_i h3 h4
        have := hb.1
        unfold offer at this
        rw [if_neg h3, if_neg h4] at this
        omega
  refine ⟨⟨by rw [List.length_set]; exact h.len, ?_, ?_⟩, ?_⟩
  · intro k hk hk0
    rw [hg] at hk0 ⊢
    split
    · rename_i e1; rw [e1]; exact hw
    · rename_i e1; rw [if_neg e1] at hk0; exact h.walk k hk hk0
  · intro k hk
    have := h.small k hk
    rw [hg, hnz]
    split
    · rcases hb.2 with h3 | h3
      · rw [if_pos h3]; exact hoff
      · have h4 := h.small e.2 h2
        omega
    · omega
  · rcases hb.2 with h3 | h3
    · rw [if_pos h3] at hwt
      have h5 : nz row < N := by
        have : nz row ≠ N := fun hh => by
          have h6 : nz row = row.length := by rw [hh, h.len]
          have h7 := List.countP_eq_length.1 h6
          have h8 := h7 (row.getD e.2 0) (by
            rw [List.getD_eq_getElem?_getD, List.getElem?_eq_getElem hl]
            exact List.getElem_mem hl)
          rw [h3] at h8
          cases h8
        omega
      omega
    · have h4 : row.getD e.2 0 ≠ 0 := by omega
      rw [if_neg h4] at hwt
      omega

theorem RI.first (es : List (Nat × Nat)) (N i : Nat) : RI es N i (List.replicate N 0) := by
  have hr : ∀ k, k < N → (List.replicate N 0).getD k 0 = 0 := fun k hk => by simp [List.getD_eq_getElem?_getD, hk]
  refine ⟨by simp, fun k hk h => ?_, fun k hk => ?_⟩
  · rw [hr k hk] at h; omega
  · rw [hr k hk]; omega

theorem RI.last {es : List (Nat × Nat)} {N i : Nat} {row : List Nat} (h : RI es N i row) (hi : i < N) (hv : ∀ e ∈ es, e.1 < N ∧ e.2 < N) (hs : ∀ e ∈ es, ¬ better i row e) : IsS es N i row := by
  have key : ∀ n k, W es (n + 1) i k → k < N ∧ 0 < row.getD k 0 ∧ row.getD k 0 ≤ n + 1 := by
    intro n
    induction n with
    | zero =>
      rintro k ⟨c, hc, hck⟩
      have e1 : i = c := hc
      subst e1
      have hb := hs _ hck
      unfold better offer at hb
      simp only [if_true] at hb
      have := (hv _ hck).2
      simp only at this
      refine ⟨this, ?_⟩
      omega
    | succ n ih =>
      rintro k ⟨c, hc, hck⟩
      obtain ⟨h1, h2, h3⟩ := ih c hc
      have hb := hs _ hck
      have := (hv _ hck).2
      simp only at this
      refine ⟨this, ?_⟩
      unfold better offer at hb
      simp only [h2, if_true] at hb
      split at hb <;> omega
  refine ⟨h.len, ?_, ?_⟩
  · intro k hk h0 n hn
    have := (key n k hn).2.1
    omega
  · intro k hk h0
    exact ⟨h.walk k hk h0, fun n hn => (key n k hn).2.2⟩
end Go.Plain
