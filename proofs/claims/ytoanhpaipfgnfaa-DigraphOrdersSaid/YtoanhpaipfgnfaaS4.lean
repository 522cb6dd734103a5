/-
  Plain graphs: the two smallest cycles are the same.
-/
import Derived.Test.YtoanhpaipfgnfaaS3
set_option linter.unusedVariables false
set_option linter.unusedSimpArgs false
namespace Go.Plain

/-- The first of the smallest so far. -/
def Mst (ok : Nat → Prop) (v : Nat → Int) (f : Nat → List Nat) (n : Nat) (c : List Nat) : Prop :=
  (c = [] ∧ ∀ i, i < n → ¬ ok i) ∨ ∃ k, k < n ∧ ok k ∧ c = f k ∧ (∀ i, i < n → ok i → v k ≤ v i) ∧ ∀ i, i < k → ok i → v k < v i

section
variable {ok : Nat → Prop} {v : Nat → Int} {f : Nat → List Nat} {n : Nat} {c : List Nat}
theorem Mst.first : Mst ok v f 0 [] := .inl ⟨rfl, fun i hi => absurd hi (Nat.not_lt_zero _)⟩
theorem Mst.none (h : Mst ok v f n c) (hn : ¬ ok n) : Mst ok v f (n + 1) c := by
  rcases h with ⟨h1, h2⟩ | ⟨k, h1, h2, h3, h4, h5⟩
  · refine .inl ⟨h1, fun i hi => ?_⟩
    by_cases e : i = n
    · subst e; exact hn
    · exact h2 i (by omega)
  · refine .inr ⟨k, by omega, h2, h3, fun i hi hok => ?_, h5⟩
    by_cases e : i = n
    · subst e; exact (hn hok).elim
    · exact h4 i (by omega) hok
theorem Mst.keep (h : Mst ok v f n c) (hl : ∀ i, i < n → ok i → ((f i).length : Int) = v i + 1) (hc : c ≠ []) (hv : (c.length : Int) ≤ v n + 1) : Mst ok v f (n + 1) c := by
  rcases h with ⟨h1, h2⟩ | ⟨k, h1, h2, h3, h4, h5⟩
  · exact (hc h1).elim
  · refine .inr ⟨k, by omega, h2, h3, fun i hi hok => ?_, h5⟩
    by_cases e : i = n
    · subst e
      have := hl k h1 h2
      rw [h3] at hv
      omega
    · exact h4 i (by omega) hok
theorem Mst.new (h : Mst ok v f n c) (hf : ∀ i, f i ≠ []) (hl : ∀ i, i < n → ok i → ((f i).length : Int) = v i + 1) (hn : ok n) (hv : c = [] ∨ v n + 1 < c.length) : Mst ok v f (n + 1) (f n) := by
  rcases h with ⟨h1, h2⟩ | ⟨k, h1, h2, h3, h4, h5⟩
  · refine .inr ⟨n, by omega, hn, rfl, fun i hi hok => ?_, fun i hi hok => (h2 i hi hok).elim⟩
    by_cases e : i = n
    · subst e; exact Int.le_refl _
    · exact (h2 i (by omega) hok).elim
  · have h6 := hl k h1 h2
    have h7 : v n < v k := by
      rcases hv with hv | hv
      · rw [h3] at hv
        exact (hf k hv).elim
      · rw [h3] at hv; omega
    refine .inr ⟨n, by omega, hn, rfl, fun i hi hok => ?_, fun i hi hok => ?_⟩
    · by_cases e : i = n
      · subst e; exact Int.le_refl _
      · have := h4 i (by omega) hok; omega
    · have := h4 i hi hok; omega
end

section
variable {es : List (Nat × Nat)} {N : Nat}
def goOk (es : List (Nat × Nat)) (N : Nat) (i : Nat) : Prop := 0 ≤ dT es N i i
def cand (es : List (Nat × Nat)) (N : Nat) (k : Nat) : Prop := 0 ≤ dT es N 0 k ∧ ∀ i ∈ cyc es N 0 k, k ≤ i

theorem W_drop {first : Nat} : ∀ {n a b : Nat}, W (es.drop first) n a b → W es n a b
  | 0, _, _, h => h
  | _ + 1, _, _, ⟨c, hc, he⟩ => ⟨c, W_drop hc, List.mem_of_mem_drop he⟩

theorem full_le (T : HasD es N) {k : Nat} (hk : k < es.length) (h : goOk es N k) : 0 ≤ dT es N 0 k ∧ dT es N 0 k ≤ dT es N k k := by
  have hd := T.at (first := 0) (Nat.zero_le _) hk
  have hd' := T.at (first := k) (by omega) hk
  have hN := (T.1 _ (getD_mem' (0, 0) hk)).2
  have h1 := (hd'.pos _ hN h).1
  have h2 : W (tE (es.drop 0)) (dT es N k k).toNat (es.getD k (0, 0)).1 (es.getD k (0, 0)).2 := by
    rw [List.drop_zero]
    exact W_rev.2 (W_drop (W_rev.1 h1))
  have h0 : 0 ≤ dT es N 0 k := by
    by_cases h3 : (dI es N 0 k).getD (es.getD k (0, 0)).2 0 < 0
    · exact ((hd.neg _ hN h3).2 _ h2).elim
    · unfold dT; omega
  refine ⟨h0, ?_⟩
  have h3 := (hd.pos _ hN h0).2 _ h2
  have h4 : dT es N 0 k = (dI es N 0 k).getD (es.getD k (0, 0)).2 0 := rfl
  have h5 : 0 ≤ dT es N k k := h
  omega

theorem cycles_same (T : HasD es N) {c b : List Nat} (hc : Mst (goOk es N) (fun i => dT es N i i) (fun i => cyc es N i i) es.length c) (hb : Mst (cand es N) (fun i => dT es N 0 i) (fun i => cyc es N 0 i) es.length b) : c = b := by
  -- a cycle of the reference gives one of the program
  have F1 : ∀ k, k < es.length → 0 ≤ dT es N 0 k → ∃ j, j ≤ k ∧ (∀ i ∈ cyc es N 0 k, j ≤ i) ∧ goOk es N j ∧ dT es N j j ≤ dT es N 0 k ∧ j ∈ cyc es N 0 k := by
    intro k hk h0
    obtain ⟨a1, a2, a3⟩ := cyc_ch T (first := 0) (Nat.zero_le _) hk h0
    obtain ⟨j, hj, hl⟩ := least_of (cyc es N 0 k) (by simp [cyc])
    obtain ⟨b1, b2, b3⟩ := least_cycle T a1 hj hl
    exact ⟨j, hl k (by simp [cyc]), hl, b2, by omega, hj⟩
  rcases hc with ⟨h1, h2⟩ | ⟨k0, h1, h2, h3, h4, h5⟩
  · rcases hb with ⟨g1, _⟩ | ⟨k, g1, g2, _⟩
    · rw [h1, g1]
    · obtain ⟨j, hj, _, hok, _⟩ := F1 k g1 g2.1
      exact (h2 j (by omega) hok).elim
  · simp only at h4 h5
    have hf := full_le T h1 h2
    have hm : dT es N 0 k0 = dT es N k0 k0 := by
      obtain ⟨j, hj, _, hok, hle, _⟩ := F1 k0 h1 hf.1
      have := h4 j (by omega) hok
      omega
    have hcand : cand es N k0 := by
      refine ⟨hf.1, ?_⟩
      obtain ⟨j, hj, hl, hok, hle, _⟩ := F1 k0 h1 hf.1
      by_cases e : j = k0
      · subst e; exact hl
      · have := h5 j (by omega) hok
        omega
    have hsame : cyc es N k0 k0 = cyc es N 0 k0 := by
      have hd := T.at (first := 0) (Nat.zero_le _) h1
      have hd' := T.at (first := k0) (by omega) h1
      have hN := (T.1 _ (getD_mem' (0, 0) h1)).2
      have := pF_same T hd hd' (dT es N 0 k0).toNat _ hN (by have := hf.1; unfold dT at this ⊢; omega) (fun i hi => hcand.2 i (List.mem_cons_of_mem _ hi))
      unfold cyc
      rw [← hm, this.2]
    rcases hb with ⟨_, g2⟩ | ⟨k1, g1, g2, g3, g4, g5⟩
    · exact (g2 k0 h1 hcand).elim
    · simp only at g4 g5
      have e1 := g4 k0 h1 hcand
      obtain ⟨j, hj, hl, hok, hle, hjm⟩ := F1 k1 g1 g2.1
      have hjk : j = k1 := by
        have := g2.2 j hjm
        omega
      subst hjk
      have e2 := h4 j g1 hok
      rcases Nat.lt_trichotomy j k0 with h | h | h
      · have := h5 j h hok
        omega
      · subst h
        rw [h3, g3]
        exact hsame
      · have := g5 k0 h hcand
        omega
end
end Go.Plain
