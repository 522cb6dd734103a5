/-
  Plain graphs: walks, distances, and a search in breadth. No program in sight.
-/
set_option linter.unusedVariables false
set_option linter.unusedSimpArgs false
namespace Go.Plain

/-- A walk of n edges leads from a to b. -/
def W (es : List (Nat × Nat)) : Nat → Nat → Nat → Prop
  | 0, a, b => a = b
  | n + 1, a, b => ∃ c, W es n a c ∧ (c, b) ∈ es

/-- A table of distances from a node; -1 where no walk leads. -/
structure IsD (es : List (Nat × Nat)) (N s : Nat) (d : List Int) : Prop where
  len : d.length = N
  neg : ∀ k, k < N → d.getD k 0 < 0 → d.getD k 0 = -1 ∧ ∀ n, ¬ W es n s k
  pos : ∀ k, k < N → 0 ≤ d.getD k 0 → W es (d.getD k 0).toNat s k ∧ ∀ n, W es n s k → (d.getD k 0).toNat ≤ n

def cnt (d : List Int) : Nat := d.countP (fun x => decide (x < 0))

theorem getD_set (d : List Int) (t : Nat) (v : Int) (k : Nat) (ht : t < d.length) : (d.set t v).getD k 0 = if k = t then v else d.getD k 0 := by
  simp only [List.getD_eq_getElem?_getD, List.getElem?_set]
  by_cases h : t = k
  · subst h; simp [ht]
  · simp [h, Ne.symm h]

theorem cnt_set (d : List Int) (t : Nat) (v : Int) (ht : t < d.length) (h1 : d.getD t 0 < 0) (h2 : 0 ≤ v) : cnt (d.set t v) + 1 = cnt d := by
  induction d generalizing t with
  | nil => simp at ht
  | cons a d ih =>
    cases t with
    | zero =>
      simp only [List.getD_cons_zero] at h1
      have h3 : ¬ v < 0 := by omega
      simp [cnt, List.countP_cons, h1, h3]
    | succ t =>
      have := ih t (by simpa using ht) (by simpa using h1)
      simp only [cnt, List.set_cons_succ, List.countP_cons] at this ⊢
      omega

structure Bg (es : List (Nat × Nat)) (N s x : Nat) (pre : List Nat) (d : List Int) (q : List Nat) : Prop where
  len : d.length = N
  xN : x < N ∧ 0 ≤ d.getD x 0
  qN : ∀ y ∈ q, y < N ∧ 0 ≤ d.getD y 0
  low : ∀ k, k < N → -1 ≤ d.getD k 0
  src : s < N ∧ d.getD s 0 = 0
  sound : ∀ k, k < N → 0 ≤ d.getD k 0 → W es (d.getD k 0).toNat s k
  near : ∀ k, k < N → ∀ y ∈ q, d.getD k 0 ≤ d.getD y 0 + 1
  nearx : ∀ k, k < N → d.getD k 0 ≤ d.getD x 0 + 1
  xq : ∀ y ∈ q, d.getD x 0 ≤ d.getD y 0
  sorted : q.Pairwise fun y z => d.getD y 0 ≤ d.getD z 0
  fin : ∀ k, k < N → 0 ≤ d.getD k 0 → k ∉ q → k ≠ x → ∀ j, (k, j) ∈ es → 0 ≤ d.getD j 0 ∧ d.getD j 0 ≤ d.getD k 0 + 1
  part : ∀ j ∈ pre, 0 ≤ d.getD j 0
  size : ∀ k, k < N → d.getD k 0 + cnt d ≤ N

structure Bf (es : List (Nat × Nat)) (N s : Nat) (d : List Int) (q : List Nat) : Prop where
  len : d.length = N
  qN : ∀ y ∈ q, y < N ∧ 0 ≤ d.getD y 0
  low : ∀ k, k < N → -1 ≤ d.getD k 0
  src : s < N ∧ d.getD s 0 = 0
  sound : ∀ k, k < N → 0 ≤ d.getD k 0 → W es (d.getD k 0).toNat s k
  near : ∀ k, k < N → ∀ y ∈ q, d.getD k 0 ≤ d.getD y 0 + 1
  sorted : q.Pairwise fun y z => d.getD y 0 ≤ d.getD z 0
  fin : ∀ k, k < N → 0 ≤ d.getD k 0 → k ∉ q → ∀ j, (k, j) ∈ es → 0 ≤ d.getD j 0 ∧ d.getD j 0 ≤ d.getD k 0 + 1
  size : ∀ k, k < N → d.getD k 0 + cnt d ≤ N

theorem Bf.pop {es : List (Nat × Nat)} {N s x : Nat} {d : List Int} {q : List Nat} (h : Bf es N s d (x :: q)) : Bg es N s x [] d q where
  len := h.len
  xN := h.qN x (List.mem_cons_self ..)
  qN y hy := h.qN y (List.mem_cons_of_mem _ hy)
  low := h.low
  src := h.src
  sound := h.sound
  near k hk y hy := h.near k hk y (List.mem_cons_of_mem _ hy)
  nearx k hk := h.near k hk x (List.mem_cons_self ..)
  xq := (List.pairwise_cons.1 h.sorted).1
  sorted := (List.pairwise_cons.1 h.sorted).2
  fin k hk h0 hq hx j hj := h.fin k hk h0 (fun hm => by
    rcases List.mem_cons.1 hm with e | e
    · exact hx e
    · exact hq e) j hj
  part j hj := by cases hj
  size := h.size

theorem Bg.shut {es : List (Nat × Nat)} {N s x : Nat} {pre : List Nat} {d : List Int} {q : List Nat} (h : Bg es N s x pre d q) (hp : ∀ j, (x, j) ∈ es → j ∈ pre ∧ j < N) : Bf es N s d q where
  len := h.len
  qN := h.qN
  low := h.low
  src := h.src
  sound := h.sound
  near := h.near
  sorted := h.sorted
  fin k hk h0 hq j hj := by
    by_cases e : k = x
    · subst e
      have := hp j hj
      exact ⟨h.part j this.1, h.nearx j this.2⟩
    · exact h.fin k hk h0 hq e j hj
  size := h.size

theorem Bg.old {es : List (Nat × Nat)} {N s x : Nat} {pre : List Nat} {d : List Int} {q : List Nat} (h : Bg es N s x pre d q) (t : Nat) (h0 : 0 ≤ d.getD t 0) : Bg es N s x (pre ++ [t]) d q :=
  have hp : ∀ j ∈ pre ++ [t], 0 ≤ d.getD j 0 := fun j hj => by
    rcases List.mem_append.1 hj with hj | hj
    · exact h.part j hj
    · rw [List.mem_singleton.1 hj]; exact h0
  ⟨h.len, h.xN, h.qN, h.low, h.src, h.sound, h.near, h.nearx, h.xq, h.sorted, h.fin, hp, h.size⟩

theorem Bg.new {es : List (Nat × Nat)} {N s x : Nat} {pre : List Nat} {d : List Int} {q : List Nat} (h : Bg es N s x pre d q) (t : Nat) (ht : t < N) (hx : (x, t) ∈ es) (h0 : d.getD t 0 < 0) :
    Bg es N s x (pre ++ [t]) (d.set t (d.getD x 0 + 1)) (q ++ [t]) := by
  have hg : ∀ k, (d.set t (d.getD x 0 + 1)).getD k 0 = if k = t then d.getD x 0 + 1 else d.getD k 0 := fun k => getD_set d t _ k (by rw [h.len]; exact ht)
  have hxt : x ≠ t := fun e => by have := h.xN.2; rw [e] at this; omega
  have hst : s ≠ t := fun e => by have := h.src.2; rw [e] at this; omega
  have hqt : ∀ y ∈ q, y ≠ t := fun y hy e => by have := (h.qN y hy).2; rw [e] at this; omega
  have hgx : (d.set t (d.getD x 0 + 1)).getD x 0 = d.getD x 0 := by rw [hg, if_neg hxt]
  have hgq : ∀ y ∈ q, (d.set t (d.getD x 0 + 1)).getD y 0 = d.getD y 0 := fun y hy => by rw [hg, if_neg (hqt y hy)]
  have hgt : (d.set t (d.getD x 0 + 1)).getD t 0 = d.getD x 0 + 1 := by rw [hg, if_pos rfl]
  have hx0 := h.xN.2
  have hup : ∀ k, d.getD k 0 ≤ (d.set t (d.getD x 0 + 1)).getD k 0 := fun k => by
    rw [hg]; split
    · rename_i e; subst e; omega
    · exact Int.le_refl _
  have hnx : ∀ k, k < N → (d.set t (d.getD x 0 + 1)).getD k 0 ≤ d.getD x 0 + 1 := fun k hk => by
    rw [hg]; split
    · exact Int.le_refl _
    · exact h.nearx k hk
  refine ⟨by rw [List.length_set]; exact h.len, ⟨h.xN.1, by rw [hgx]; exact hx0⟩, ?_, ?_, ⟨h.src.1, by rw [hg, if_neg hst]; exact h.src.2⟩, ?_, ?_, ?_, ?_, ?_, ?_, ?_, ?_⟩
  · intro y hy
    rcases List.mem_append.1 hy with hy | hy
    · rw [hgq y hy]; exact h.qN y hy
    · rw [List.mem_singleton.1 hy, hgt]; exact ⟨ht, by omega⟩
  · intro k hk
    have := h.low k hk
    have := hup k
    omega
  · intro k hk hk0
    rw [hg] at hk0 ⊢
    split
    · rename_i e
      subst e
      have e2 : (d.getD x 0 + 1).toNat = (d.getD x 0).toNat + 1 := by omega
      rw [e2]
      exact ⟨x, h.sound x h.xN.1 hx0, hx⟩
    · rename_i e
      rw [if_neg e] at hk0
      exact h.sound k hk hk0
  · intro k hk y hy
    have h1 := hnx k hk
    rcases List.mem_append.1 hy with hy | hy
    · rw [hgq y hy]
      have := h.xq y hy
      omega
    · rw [List.mem_singleton.1 hy, hgt]
      omega
  · intro k hk
    rw [hgx]
    exact hnx k hk
  · intro y hy
    rw [hgx]
    rcases List.mem_append.1 hy with hy | hy
    · rw [hgq y hy]; exact h.xq y hy
    · rw [List.mem_singleton.1 hy, hgt]; omega
  · rw [List.pairwise_append]
    refine ⟨h.sorted.imp_of_mem ?_, List.pairwise_singleton _ _, ?_⟩
    · intro a b ha hb hab
      rw [hgq a ha, hgq b hb]; exact hab
    · intro y hy z hz
      rw [List.mem_singleton.1 hz, hgt, hgq y hy]
      exact h.nearx y (h.qN y hy).1
  · intro k hk hk0 hq hkx j hj
    have hkt : k ≠ t := fun e => hq (by rw [e]; simp)
    have hkq : k ∉ q := fun hm => hq (List.mem_append_left _ hm)
    have e1 : (d.set t (d.getD x 0 + 1)).getD k 0 = d.getD k 0 := by rw [hg, if_neg hkt]
    rw [e1] at hk0 ⊢
    have h3 := h.fin k hk hk0 hkq hkx j hj
    have hjt : j ≠ t := fun e => by rw [e] at h3; omega
    rw [hg, if_neg hjt]
    exact h3
  · intro j hj
    rcases List.mem_append.1 hj with hj | hj
    · have := h.part j hj
      have := hup j
      omega
    · rw [List.mem_singleton.1 hj, hgt]; omega
  · intro k hk
    have h1 := cnt_set d t (d.getD x 0 + 1) (by rw [h.len]; exact ht) h0 (by omega)
    have h2 := h.size k hk
    have h3 := h.size x h.xN.1
    rw [hg]
    split <;> omega

theorem Bf.first {es : List (Nat × Nat)} {N s : Nat} (hs : s < N) : Bf es N s ((List.replicate N (-1 : Int)).set s 0) [s] := by
  have hg : ∀ k, ((List.replicate N (-1 : Int)).set s 0).getD k 0 = if k = s then 0 else (List.replicate N (-1 : Int)).getD k 0 := fun k => getD_set _ s _ k (by simpa using hs)
  have hr : ∀ k, k < N → (List.replicate N (-1 : Int)).getD k 0 = -1 := fun k hk => by simp [List.getD_eq_getElem?_getD, hk]
  have hc : cnt ((List.replicate N (-1 : Int)).set s 0) + 1 = N := by
    rw [cnt_set _ _ _ (by simpa using hs) (by rw [hr s hs]; omega) (Int.le_refl _)]
    simp [cnt, List.countP_replicate]
  have hb : ∀ k, k < N → ((List.replicate N (-1 : Int)).set s 0).getD k 0 = 0 ∧ k = s ∨ ((List.replicate N (-1 : Int)).set s 0).getD k 0 = -1 := fun k hk => by
    rw [hg]
    by_cases e : k = s
    · left; simp [e]
    · right; rw [if_neg e, hr k hk]
  have hss : ((List.replicate N (-1 : Int)).set s 0).getD s 0 = 0 := by rw [hg, if_pos rfl]
  refine ⟨by simp, ?_, ?_, ⟨hs, hss⟩, ?_, ?_, List.pairwise_singleton _ _, ?_, ?_⟩
  · intro y hy
    rw [List.mem_singleton.1 hy, hss]
    exact ⟨hs, Int.le_refl _⟩
  · intro k hk
    rcases hb k hk with h | h <;> omega
  · intro k hk h0
    rcases hb k hk with h | h
    · rw [h.1, h.2]; rfl
    · omega
  · intro k hk y hy
    rw [List.mem_singleton.1 hy, hss]
    rcases hb k hk with h | h <;> omega
  · intro k hk h0 hq j hj
    rcases hb k hk with h | h
    · exact (hq (by simp [h.2])).elim
    · omega
  · intro k hk
    rcases hb k hk with h | h <;> omega

theorem Bf.isD {es : List (Nat × Nat)} {N s : Nat} {d : List Int} (h : Bf es N s d []) (hv : ∀ e ∈ es, e.1 < N ∧ e.2 < N) : IsD es N s d := by
  have key : ∀ n k, W es n s k → k < N ∧ 0 ≤ d.getD k 0 ∧ d.getD k 0 ≤ n := by
    intro n
    induction n with
    | zero =>
      intro k hk
      have e : s = k := hk
      subst e
      exact ⟨h.src.1, by rw [h.src.2]; exact Int.le_refl _, by rw [h.src.2]; exact Int.le_refl _⟩
    | succ n ih =>
      rintro k ⟨c, hc, hck⟩
      obtain ⟨h1, h2, h3⟩ := ih c hc
      have h4 := h.fin c h1 h2 (by simp) k hck
      refine ⟨(hv _ hck).2, h4.1, ?_⟩
      have := h4.2
      omega
  refine ⟨h.len, ?_, ?_⟩
  · intro k hk h0
    refine ⟨by have := h.low k hk; omega, fun n hn => ?_⟩
    have := (key n k hn).2.1
    omega
  · intro k hk h0
    refine ⟨h.sound k hk h0, fun n hn => ?_⟩
    have := (key n k hn).2.2
    omega
end Go.Plain
