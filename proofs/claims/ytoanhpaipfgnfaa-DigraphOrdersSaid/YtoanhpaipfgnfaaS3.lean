/-
  Plain graphs: the smallest cycle, as the program and as the reference find it.
-/
import Derived.Test.YtoanhpaipfgnfaaS2
import Derived.Test.YtoanhpaipfgnfaaR4
set_option linter.unusedVariables false
set_option linter.unusedSimpArgs false
namespace Go.Plain

noncomputable def dist (es : List (Nat × Nat)) (N t : Nat) : List Int := by
  classical
  exact if h : ∃ d, IsD es N t d then Classical.choose h else []

theorem dist_eq {es : List (Nat × Nat)} {N t : Nat} {d : List Int} (h : IsD es N t d) : dist es N t = d := by
  unfold dist
  have hx : ∃ d, IsD es N t d := ⟨d, h⟩
  rw [dif_pos hx]
  exact (Classical.choose_spec hx).eq h

/-- The way back from the end of the edge i to its beginning, by edges from an index on: its table of distances. -/
noncomputable def dI (es : List (Nat × Nat)) (N first i : Nat) : List Int := dist (tE (es.drop first)) N (es.getD i (0, 0)).1
noncomputable def dT (es : List (Nat × Nat)) (N first i : Nat) : Int := (dI es N first i).getD (es.getD i (0, 0)).2 0

/-- The cycle that begins with the edge i and goes on by edges from an index on. -/
noncomputable def cyc (es : List (Nat × Nat)) (N first i : Nat) : List Nat := i :: pF es first (dI es N first i) (dT es N first i).toNat (es.getD i (0, 0)).2

/-- Indices of edges that lead from a to b. -/
def Ch (es : List (Nat × Nat)) : List Nat → Nat → Nat → Prop
  | [], a, b => a = b
  | i :: l, a, b => i < es.length ∧ (es.getD i (0, 0)).1 = a ∧ Ch es l (es.getD i (0, 0)).2 b

theorem Ch.append {es : List (Nat × Nat)} : ∀ {l m : List Nat} {a b c : Nat}, Ch es l a b → Ch es m b c → Ch es (l ++ m) a c
  | [], m, a, b, c, h, k => by have : a = b := h; subst this; exact k
  | i :: l, m, a, b, c, h, k => ⟨h.1, h.2.1, h.2.2.append k⟩

theorem Ch.split {es : List (Nat × Nat)} : ∀ {l m : List Nat} {a c : Nat}, Ch es (l ++ m) a c → ∃ b, Ch es l a b ∧ Ch es m b c
  | [], m, a, c, h => ⟨a, rfl, h⟩
  | i :: l, m, a, c, h => by
    obtain ⟨b, h1, h2⟩ := Ch.split h.2.2
    exact ⟨b, ⟨h.1, h.2.1, h1⟩, h2⟩

theorem getD_mem' {α : Type} {xs : List α} {i : Nat} (d : α) (h : i < xs.length) : xs.getD i d ∈ xs := by
  rw [List.getD_eq_getElem?_getD, List.getElem?_eq_getElem h]
  exact List.getElem_mem h

theorem Ch.walk {es : List (Nat × Nat)} {first : Nat} : ∀ {l : List Nat} {a b : Nat}, Ch es l a b → (∀ i ∈ l, first ≤ i) → W (es.drop first) l.length a b
  | [], _, _, h, _ => h
  | i :: l, a, b, h, hf => by
    rw [List.length_cons, W_cons]
    refine ⟨(es.getD i (0, 0)).2, ?_, Ch.walk h.2.2 fun j hj => hf j (List.mem_cons_of_mem _ hj)⟩
    have h1 := hf i (List.mem_cons_self ..)
    have h2 : es.getD i (0, 0) ∈ es.drop first := by
      rw [show i = first + (i - first) from by omega, ← getD_drop]
      exact getD_mem' _ (by simp; have := h.1; omega)
    rw [← h.2.1]
    exact h2

section
variable {es : List (Nat × Nat)} {N : Nat}

/-- All tables of distances that are asked for are there. -/
def HasD (es : List (Nat × Nat)) (N : Nat) : Prop := (∀ e ∈ es, e.1 < N ∧ e.2 < N) ∧ ∀ first t, first ≤ es.length → t < N → ∃ d, IsD (tE (es.drop first)) N t d

theorem HasD.at (T : HasD es N) {first i : Nat} (hf : first ≤ es.length) (hi : i < es.length) : IsD (tE (es.drop first)) N (es.getD i (0, 0)).1 (dI es N first i) := by
  obtain ⟨d, hd⟩ := T.2 first (es.getD i (0, 0)).1 hf (T.1 _ (getD_mem' _ hi)).1
  unfold dI
  rw [dist_eq hd]
  exact hd

theorem pF_ch (hv : ∀ e ∈ es, e.1 < N ∧ e.2 < N) {first t : Nat} {d : List Int} (hd : IsD (tE (es.drop first)) N t d) : ∀ (m a : Nat), a < N → d.getD a 0 = (m : Int) → Ch es (pF es first d m a) a t ∧ (∀ i ∈ pF es first d m a, first ≤ i) ∧ (pF es first d m a).length = m
  | 0, a, ha, hm => by
    refine ⟨?_, by simp [pF], rfl⟩
    have := (hd.pos a ha (by omega)).1
    rw [hm] at this
    exact Eq.symm this
  | m + 1, a, ha, hm => by
    obtain ⟨k1, k2, k3, _⟩ := pk_spec es first d m a (nearer hv hd a m ha hm)
    have hmt := (mt_iff ..).1 k3
    obtain ⟨h1, h2, h3⟩ := pF_ch hv hd m _ (hv _ (getD_mem' (0, 0) k2)).2 hmt.2
    refine ⟨⟨k2, hmt.1, h1⟩, ?_, by rw [pF, List.length_cons, h3]⟩
    intro i hi
    rcases List.mem_cons.1 hi with rfl | hi
    · exact k1
    · exact h2 i hi

/-- The cycle leads around. -/
theorem cyc_ch (T : HasD es N) {first i : Nat} (hf : first ≤ es.length) (hi : i < es.length) (h : 0 ≤ dT es N first i) :
    Ch es (cyc es N first i) (es.getD i (0, 0)).1 (es.getD i (0, 0)).1 ∧ (∀ j ∈ cyc es N first i, j = i ∨ first ≤ j) ∧ ((cyc es N first i).length : Int) = dT es N first i + 1 := by
  have h1 := (T.1 _ (getD_mem' (0, 0) hi)).2
  obtain ⟨a, b, c⟩ := pF_ch T.1 (T.at hf hi) (dT es N first i).toNat _ h1 (by unfold dT at h ⊢; omega)
  refine ⟨⟨hi, rfl, a⟩, ?_, ?_⟩
  · intro j hj
    rcases List.mem_cons.1 hj with hj | hj
    · exact .inl hj
    · exact .inr (b j hj)
  · unfold cyc
    rw [List.length_cons, c]
    omega

/-- A cycle of any indices gives one, no longer, that begins with its least. -/
theorem least_cycle (T : HasD es N) {l : List Nat} {a j : Nat} (hc : Ch es l a a) (hj : j ∈ l) (hl : ∀ i ∈ l, j ≤ i) : j < es.length ∧ 0 ≤ dT es N j j ∧ dT es N j j + 1 ≤ l.length := by
  obtain ⟨A, B, rfl⟩ := List.append_of_mem hj
  obtain ⟨b, h1, h2⟩ := hc.split
  have hje : j < es.length := h2.1
  have hjb : (es.getD j (0, 0)).1 = b := h2.2.1
  have h3 : Ch es (B ++ A) (es.getD j (0, 0)).2 (es.getD j (0, 0)).1 := by
    rw [hjb]; exact h2.2.2.append h1
  have h4 := h3.walk (first := j) fun i hi => hl i (by
    rcases List.mem_append.1 hi with hi | hi
    · exact List.mem_append_right _ (List.mem_cons_of_mem _ hi)
    · exact List.mem_append_left _ hi)
  have hd := T.at (first := j) (by omega) hje
  have hN := (T.1 _ (getD_mem' (0, 0) hje)).2
  have hnn : 0 ≤ dT es N j j := by
    unfold dT
    by_cases h0 : (dI es N j j).getD (es.getD j (0, 0)).2 0 < 0
    · exact ((hd.neg _ hN h0).2 _ (W_rev.2 h4)).elim
    · omega
  refine ⟨hje, hnn, ?_⟩
  have h5 := (hd.pos _ hN hnn).2 _ (W_rev.2 h4)
  have h6 : dT es N j j = (dI es N j j).getD (es.getD j (0, 0)).2 0 := rfl
  simp only [List.length_append, List.length_cons] at h5 ⊢
  omega

/-- Every list that is not empty has a least entry. -/
theorem least_of : ∀ (l : List Nat), l ≠ [] → ∃ j ∈ l, ∀ i ∈ l, j ≤ i
  | [], h => (h rfl).elim
  | [x], _ => ⟨x, by simp, by simp⟩
  | x :: y :: l, _ => by
    obtain ⟨j, hj, hl⟩ := least_of (y :: l) (by simp)
    by_cases h : x ≤ j
    · refine ⟨x, by simp, ?_⟩
      intro i hi
      rcases List.mem_cons.1 hi with rfl | hi
      · exact Nat.le_refl _
      · exact Nat.le_trans h (hl i hi)
    · refine ⟨j, List.mem_cons_of_mem _ hj, ?_⟩
      intro i hi
      rcases List.mem_cons.1 hi with rfl | hi
      · omega
      · exact hl i hi

/-- Ways that use no edge below an index are the same with and without those edges. -/
theorem pF_same (T : HasD es N) {first t : Nat} {d d' : List Int} (hd : IsD (tE (es.drop 0)) N t d) (hd' : IsD (tE (es.drop first)) N t d') : ∀ (m a : Nat), a < N → d.getD a 0 = (m : Int) → (∀ i ∈ pF es 0 d m a, first ≤ i) → d'.getD a 0 = (m : Int) ∧ pF es first d' m a = pF es 0 d m a
  | 0, a, ha, hm, _ => by
    have h1 := (hd.pos a ha (by omega)).1
    rw [hm] at h1
    have : t = a := h1
    subst this
    refine ⟨?_, rfl⟩
    by_cases h0 : d'.getD t 0 < 0
    · exact ((hd'.neg t ha h0).2 0 rfl).elim
    · have := (hd'.pos t ha (by omega)).2 0 rfl
      omega
  | m + 1, a, ha, hm, hf => by
    obtain ⟨k1, k2, k3, k4⟩ := pk_spec es 0 d m a (nearer T.1 hd a m ha hm)
    have hmt := (mt_iff ..).1 k3
    have hkN := (T.1 _ (getD_mem' (0, 0) k2)).2
    have hfk : first ≤ pk es 0 d m a := hf _ (List.mem_cons_self ..)
    obtain ⟨i1, i2⟩ := pF_same T hd hd' m _ hkN hmt.2 fun i hi => hf i (List.mem_cons_of_mem _ hi)
    have hda : d'.getD a 0 = ((m + 1 : Nat) : Int) := by
      have hch := (pF_ch T.1 hd (m + 1) a ha hm)
      have hw := hch.1.walk hf
      rw [hch.2.2] at hw
      by_cases h0 : d'.getD a 0 < 0
      · exact ((hd'.neg a ha h0).2 _ (W_rev.2 hw)).elim
      · have h1 := (hd'.pos a ha (by omega))
        have h2 := h1.2 _ (W_rev.2 hw)
        have h3 : W (tE (es.drop 0)) (d'.getD a 0).toNat t a := by
          have mono : ∀ n a b, W (es.drop first) n a b → W es n a b := by
            intro n
            induction n with
            | zero => intro a b h; exact h
            | succ n ih => rintro a b ⟨c, hc, he⟩; exact ⟨c, ih _ _ hc, List.mem_of_mem_drop he⟩
          rw [List.drop_zero]
          exact W_rev.2 (mono _ _ _ (W_rev.1 h1.1))
        have h4 := (hd.pos a ha (by omega)).2 _ h3
        omega
    refine ⟨hda, ?_⟩
    have hpk : pk es first d' m a = pk es 0 d m a := by
      refine pk_eq es first d' m a _ hfk k2 ((mt_iff ..).2 ⟨hmt.1, i1⟩) ?_
      intro i hi1 hi2
      rw [← Bool.not_eq_true, mt_iff]
      rintro ⟨e1, e2⟩
      have hil : i < es.length := by omega
      have hiN := (T.1 _ (getD_mem' (0, 0) hil)).2
      have h5 := k4 i (Nat.zero_le _) hi2
      rw [← Bool.not_eq_true, mt_iff] at h5
      apply h5
      refine ⟨e1, ?_⟩
      have hwd := (hd'.pos _ hiN (by omega)).1
      rw [e2] at hwd
      have mono : ∀ n a b, W (es.drop first) n a b → W es n a b := by
        intro n
        induction n with
        | zero => intro a b h; exact h
        | succ n ih => rintro a b ⟨c, hc, he⟩; exact ⟨c, ih _ _ hc, List.mem_of_mem_drop he⟩
      have hw : W (tE (es.drop 0)) m t (es.getD i (0, 0)).2 := by
        rw [List.drop_zero]
        exact W_rev.2 (mono _ _ _ (W_rev.1 hwd))
      by_cases h0 : d.getD (es.getD i (0, 0)).2 0 < 0
      · exact ((hd.neg _ hiN h0).2 _ hw).elim
      · have h6 := hd.pos _ hiN (by omega)
        have h7 := h6.2 _ hw
        have h8 := (hd.pos a ha (by omega)).2 ((d.getD (es.getD i (0, 0)).2 0).toNat + 1) ⟨_, h6.1, mem_tE.2 (by rw [List.drop_zero, ← e1]; exact getD_mem' (0, 0) hil)⟩
        omega
    rw [pF, pF, hpk, i2]
end
end Go.Plain
