/-
  Plain graphs: the least topological order.
-/
import Derived.Test.YtoanhpaipfgnfaaS4
set_option linter.unusedVariables false
set_option linter.unusedSimpArgs false
namespace Go.Plain

/-- A node that may come next. -/
def rdy (es : List (Nat × Nat)) (out : List Nat) (i : Nat) : Prop := i ∉ out ∧ ∀ e ∈ es, e.2 = i → e.1 ∈ out

/-- A part of a topological order, each the least that may come next. -/
inductive Top (es : List (Nat × Nat)) (N : Nat) : List Nat → Prop where
  | nil : Top es N []
  | step {out : List Nat} {i : Nat} (h : Top es N out) (hi : i < N) (hr : rdy es out i) (hl : ∀ j, j < i → ¬ rdy es out j) : Top es N (out ++ [i])

theorem rdy_eq {es : List (Nat × Nat)} {out : List Nat} {i j : Nat} (h1 : rdy es out i) (h2 : ∀ k, k < i → ¬ rdy es out k) (h3 : rdy es out j) (h4 : ∀ k, k < j → ¬ rdy es out k) : i = j := by
  rcases Nat.lt_trichotomy i j with h | h | h
  · exact (h4 i h h1).elim
  · exact h
  · exact (h2 j h h3).elim

theorem Top.nodup {es : List (Nat × Nat)} {N : Nat} {out : List Nat} (h : Top es N out) : out.Nodup := by
  induction h with
  | nil => exact .nil
  | step h hi hr hl ih =>
    rw [List.nodup_append]
    refine ⟨ih, List.nodup_cons.2 ⟨by simp, .nil⟩, ?_⟩
    intro a ha b hb e
    rw [List.mem_singleton.1 hb] at e
    rw [e] at ha
    exact hr.1 ha

theorem Top.lt {es : List (Nat × Nat)} {N : Nat} {out : List Nat} (h : Top es N out) : ∀ i ∈ out, i < N := by
  induction h with
  | nil => intro i hi; cases hi
  | step h hi hr hl ih =>
    intro j hj
    rcases List.mem_append.1 hj with hj | hj
    · exact ih j hj
    · rw [List.mem_singleton.1 hj]; exact hi

theorem nodup_le : ∀ (N : Nat) (l : List Nat), l.Nodup → (∀ i ∈ l, i < N) → l.length ≤ N
  | 0, l, _, h => by
    cases l with
    | nil => simp
    | cons a l => exact absurd (h a (List.mem_cons_self ..)) (Nat.not_lt_zero _)
  | N + 1, l, hn, h => by
    have h1 := nodup_le N (l.erase N) (hn.erase N) (fun i hi => by
      have h2 := (List.Nodup.mem_erase_iff hn).1 hi
      have := h i h2.2
      have := h2.1
      omega)
    have h2 := List.length_erase (a := N) (l := l)
    split at h2 <;> omega

theorem nodup_all {N : Nat} {l : List Nat} (hn : l.Nodup) (h : ∀ i ∈ l, i < N) (hl : l.length = N) : ∀ i, i < N → i ∈ l := by
  intro i hi
  by_cases hm : i ∈ l
  · exact hm
  · have h1 : (i :: l).Nodup := List.nodup_cons.2 ⟨hm, hn⟩
    have := nodup_le N (i :: l) h1 (by
      intro j hj
      rcases List.mem_cons.1 hj with rfl | hj
      · exact hi
      · exact h j hj)
    rw [List.length_cons] at this
    omega

/-- What has come has all that leads to it behind it. -/
theorem Top.pred {es : List (Nat × Nat)} {N : Nat} {out : List Nat} (h : Top es N out) : ∀ e ∈ es, e.2 ∈ out → e.1 ∈ out := by
  induction h with
  | nil => intro e _ h; cases h
  | step h hi hr hl ih =>
    intro e he hm
    rcases List.mem_append.1 hm with hm | hm
    · exact List.mem_append_left _ (ih e he hm)
    · exact List.mem_append_left _ (hr.2 e he (List.mem_singleton.1 hm))

/-- No way leads around among what has come. -/
theorem Top.around {es : List (Nat × Nat)} {N : Nat} {out : List Nat} (h : Top es N out) : ∀ (n a : Nat), a ∈ out → ¬ W es (n + 1) a a := by
  have back : ∀ {out : List Nat}, Top es N out → ∀ n a b, W es n a b → b ∈ out → a ∈ out := by
    intro out h n
    induction n with
    | zero => intro a b hw hb; have : a = b := hw; rw [this]; exact hb
    | succ n ih =>
      rintro a b ⟨c, hc, he⟩ hb
      exact ih a c hc (h.pred _ he hb)
  induction h with
  | nil => intro n a ha; cases ha
  | step h hi hr hl ih =>
    rename_i out i
    intro n a ha hw
    rcases List.mem_append.1 ha with ha | ha
    · exact ih n a ha hw
    · have hai : a = i := List.mem_singleton.1 ha
      subst hai
      obtain ⟨c, hc, he⟩ := hw
      have hco : c ∈ out := hr.2 _ he rfl
      exact hr.1 (back h n a c hc hco)

theorem nodup_sub : ∀ (l m : List Nat), l.Nodup → (∀ i ∈ l, i ∈ m) → l.length ≤ m.length
  | [], m, _, _ => Nat.zero_le _
  | x :: l, m, hn, h => by
    have hn := List.nodup_cons.1 hn
    have hx := h x (List.mem_cons_self ..)
    have h1 := nodup_sub l (m.erase x) hn.2 (fun i hi => by
      have hne : i ≠ x := fun e => hn.1 (by rw [← e]; exact hi)
      exact (List.mem_erase_of_ne hne).2 (h i (List.mem_cons_of_mem _ hi)))
    have h2 := List.length_erase_of_mem hx
    have h3 := List.length_pos_of_mem hx
    rw [List.length_cons]
    omega

theorem least_ex {p : Nat → Prop} : ∀ (n : Nat), p n → ∃ i, i ≤ n ∧ p i ∧ ∀ j, j < i → ¬ p j := by
  intro n
  induction n using Nat.strongRecOn with
  | _ n ih =>
    intro h
    by_cases hx : ∃ j, j < n ∧ p j
    · obtain ⟨j, hj, hp⟩ := hx
      obtain ⟨i, h1, h2, h3⟩ := ih j hj hp
      exact ⟨i, by omega, h2, h3⟩
    · exact ⟨n, Nat.le_refl _, h, fun j hj hp => hx ⟨j, hj, hp⟩⟩

/-- Without a way around something may come next, as long as not all has come. -/
theorem Top.more {es : List (Nat × Nat)} {N : Nat} {out : List Nat} (hv : ∀ e ∈ es, e.1 < N ∧ e.2 < N) (hno : ∀ n a, ¬ W es (n + 1) a a) (hl : out.length < N) : ∃ i, i < N ∧ rdy es out i ∧ ∀ j, j < i → ¬ rdy es out j := by
  by_cases hx : ∃ i, i < N ∧ rdy es out i
  · obtain ⟨i, hi, hr⟩ := hx
    obtain ⟨j, h1, h2, h3⟩ := least_ex i hr
    exact ⟨j, by omega, h2, h3⟩
  · exfalso
    have hpred : ∀ x, x < N → x ∉ out → ∃ p, p < N ∧ p ∉ out ∧ (p, x) ∈ es := by
      intro x hxN hxo
      apply Classical.byContradiction
      intro hcon
      refine hx ⟨x, hxN, hxo, fun e he h2 => ?_⟩
      apply Classical.byContradiction
      intro h3
      exact hcon ⟨e.1, (hv e he).1, h3, by rw [← h2]; exact he⟩
    have hex : ∃ x, x < N ∧ x ∉ out := by
      apply Classical.byContradiction
      intro hcon
      have := nodup_sub (List.range N) out List.nodup_range (fun i hi => Classical.byContradiction fun hh => hcon ⟨i, List.mem_range.1 hi, hh⟩)
      rw [List.length_range] at this
      omega
    have key : ∀ m, ∃ (h : Nat) (l : List Nat), (h :: l).length = m + 1 ∧ (h :: l).Nodup ∧ (∀ i ∈ h :: l, i < N ∧ i ∉ out) ∧ ∀ i ∈ h :: l, ∃ n, W es n h i := by
      intro m
      induction m with
      | zero =>
        obtain ⟨x, h1, h2⟩ := hex
        exact ⟨x, [], rfl, List.nodup_cons.2 ⟨by simp, .nil⟩, by simp [h1, h2], fun i hi => ⟨0, by
          have : i = x := by simpa using hi
          exact this.symm⟩⟩
      | succ m ih =>
        obtain ⟨h, l, h1, h2, h3, h4⟩ := ih
        have hh := h3 h (List.mem_cons_self ..)
        obtain ⟨p, p1, p2, p3⟩ := hpred h hh.1 hh.2
        refine ⟨p, h :: l, by rw [List.length_cons, h1], List.nodup_cons.2 ⟨fun hm => ?_, h2⟩, ?_, ?_⟩
        · obtain ⟨n, hn⟩ := h4 p hm
          exact hno n h ⟨p, hn, p3⟩
        · intro i hi
          rcases List.mem_cons.1 hi with rfl | hi
          · exact ⟨p1, p2⟩
          · exact h3 i hi
        · intro i hi
          rcases List.mem_cons.1 hi with rfl | hi
          · exact ⟨0, rfl⟩
          · obtain ⟨n, hn⟩ := h4 i hi
            exact ⟨n + 1, W_cons.2 ⟨h, p3, hn⟩⟩
    obtain ⟨h, l, h1, h2, h3, _⟩ := key N
    have := nodup_le N (h :: l) h2 fun i hi => (h3 i hi).1
    omega

/-- The whole order. -/
theorem Top.uniq {es : List (Nat × Nat)} {N : Nat} : ∀ {l m : List Nat}, Top es N l → Top es N m → l.length = m.length → l = m := by
  intro l m hl
  induction hl generalizing m with
  | nil => intro _ h; exact (List.eq_nil_of_length_eq_zero h.symm).symm
  | step h hi hr hle ih =>
    rename_i out i
    intro hm hlen
    cases hm with
    | nil => simp at hlen
    | step h' hi' hr' hle' =>
      rename_i out' i'
      have : out = out' := ih h' (by simpa using hlen)
      subst this
      rw [rdy_eq hr hle hr' hle']

/-- A walk of some edges that returns, from a list of indices that does. -/
theorem Ch.around {es : List (Nat × Nat)} {i : Nat} {l : List Nat} {a : Nat} (h : Ch es (i :: l) a a) : W es (l.length + 1) a a := by
  have := h.walk (first := 0) (fun _ _ => Nat.zero_le _)
  rw [List.drop_zero] at this
  exact this

/-- A walk as a list of indices. -/
theorem W.ch {es : List (Nat × Nat)} : ∀ {n a b : Nat}, W es n a b → ∃ l, l.length = n ∧ Ch es l a b
  | 0, a, b, h => ⟨[], rfl, h⟩
  | n + 1, a, b, h => by
    obtain ⟨c, h1, h2⟩ := W_cons.1 h
    obtain ⟨l, h3, h4⟩ := W.ch h2
    obtain ⟨i, hi, hie⟩ := List.getElem_of_mem h1
    have hg : es.getD i (0, 0) = (a, c) := by
      rw [List.getD_eq_getElem?_getD, List.getElem?_eq_getElem hi, Option.getD_some, hie]
    exact ⟨i :: l, by rw [List.length_cons, h3], hi, by rw [hg], by rw [hg]; exact h4⟩

/-- The reference finds a cycle exactly if a way leads around. -/
theorem cycle_iff {es : List (Nat × Nat)} {N : Nat} (T : HasD es N) {b : List Nat} (hb : Mst (cand es N) (fun i => dT es N 0 i) (fun i => cyc es N 0 i) es.length b) : 0 < b.length ↔ ∃ n a, W es (n + 1) a a := by
  classical
  constructor
  · intro h
    rcases hb with ⟨h1, _⟩ | ⟨k, h1, h2, h3, _⟩
    · rw [h1] at h; simp at h
    · have := (cyc_ch T (Nat.zero_le _) h1 h2.1).1
      exact ⟨_, _, Ch.around this⟩
  · rintro ⟨n, a, hw⟩
    obtain ⟨l, h1, h2⟩ := hw.ch
    obtain ⟨j, hj, hle⟩ := least_of l (by intro e; rw [e] at h1; simp at h1)
    obtain ⟨b1, b2, b3⟩ := least_cycle T h2 hj hle
    have hcl : ∀ i, i < es.length → goOk es N i → ((cyc es N i i).length : Int) = dT es N i i + 1 := fun i hi h => (cyc_ch T (by omega) hi h).2.2
    have hex : ∀ n, n ≤ es.length → ∃ c, Mst (goOk es N) (fun i => dT es N i i) (fun i => cyc es N i i) n c := by
      intro n
      induction n with
      | zero => intro _; exact ⟨[], .first⟩
      | succ n ih =>
        intro hn
        obtain ⟨c, hc⟩ := ih (by omega)
        by_cases hok : goOk es N n
        · by_cases hcc : c = [] ∨ dT es N n n + 1 < c.length
          · exact ⟨_, hc.new (fun _ => by simp [cyc]) (fun j hj => hcl j (by omega)) hok hcc⟩
          · refine ⟨c, hc.keep (fun j hj => hcl j (by omega)) (fun e => hcc (.inl e)) ?_⟩
            have : ¬ dT es N n n + 1 < c.length := fun hh => hcc (.inr hh)
            omega
        · exact ⟨c, hc.none hok⟩
    obtain ⟨c, hc⟩ := hex es.length (Nat.le_refl _)
    have hcb := cycles_same T hc hb
    rw [← hcb]
    rcases hc with ⟨_, h3⟩ | ⟨k, _, _, h3, _⟩
    · exact (h3 j b1 b2).elim
    · rw [h3]; simp [cyc]
end Go.Plain

namespace Go.Plain

theorem take_succ_getD' {α : Type} : ∀ (l : List α) (j : Nat) (a : α), j < l.length → l.take (j + 1) = l.take j ++ [l.getD j a]
  | [], j, a, h => by simp at h
  | x :: l, 0, a, h => by simp
  | x :: l, j + 1, a, h => by
    have := take_succ_getD' l j a (by simpa using h)
    rw [List.take_succ_cons, this]
    rfl

theorem Top.take {es : List (Nat × Nat)} {N : Nat} {out : List Nat} (h : Top es N out) : ∀ m, Top es N (out.take m) := by
  induction h with
  | nil => intro m; rw [List.take_nil]; exact .nil
  | step h hi hr hl ih =>
    rename_i out i
    intro m
    rcases Nat.lt_or_ge out.length m with hm | hm
    · rw [List.take_of_length_le (by rw [List.length_append]; simp only [List.length_cons, List.length_nil]; omega)]
      exact h.step hi hr hl
    · rw [List.take_append_of_le_length hm]
      exact ih m

theorem Top.at {es : List (Nat × Nat)} {N : Nat} {out : List Nat} (h : Top es N out) {m : Nat} (hm : m < out.length) : out.getD m 0 < N ∧ rdy es (out.take m) (out.getD m 0) := by
  have h1 := h.take (m + 1)
  rw [take_succ_getD' out m 0 hm] at h1
  generalize hq : out.take m ++ [out.getD m 0] = q at h1
  cases h1 with
  | nil => simp at hq
  | step h2 hi hr hl =>
    obtain ⟨e1, e2⟩ := List.append_inj' hq rfl
    rw [e1]
    rw [List.cons.inj e2 |>.1]
    exact ⟨hi, hr⟩

/-- A way to what has come is shorter than what has come. -/
theorem Top.short {es : List (Nat × Nat)} {N : Nat} {out : List Nat} (h : Top es N out) : ∀ n a k, k ∈ out → W es n a k → n < out.length := by
  induction h with
  | nil => intro n a k hk; cases hk
  | step h hi hr hl ih =>
    rename_i out i
    intro n a k hk hw
    rw [List.length_append]
    simp only [List.length_cons, List.length_nil]
    rcases List.mem_append.1 hk with hk | hk
    · have := ih n a k hk hw
      omega
    · have hki : k = i := List.mem_singleton.1 hk
      subst hki
      cases n with
      | zero => omega
      | succ n =>
        obtain ⟨c, hc, he⟩ := hw
        have := ih n a c (hr.2 _ he rfl) hc
        omega

/-- Lengths of ways that end at a node. -/
structure Ls (es : List (Nat × Nat)) (N : Nat) (d : List Int) : Prop where
  len : d.length = N
  snd : ∀ k, k < N → ∃ n a, d.getD k 0 = ((n : Nat) : Int) ∧ W es n a k

/-- The greatest. -/
structure IsL (es : List (Nat × Nat)) (N : Nat) (d : List Int) : Prop extends Ls es N d where
  rel : ∀ e ∈ es, d.getD e.1 0 + 1 ≤ d.getD e.2 0

theorem Ls.zero (es : List (Nat × Nat)) (N : Nat) : Ls es N (List.replicate N 0) :=
  ⟨by simp, fun k hk => ⟨0, k, by simp [List.getD_eq_getElem?_getD, hk], rfl⟩⟩

theorem Ls.nonneg {es : List (Nat × Nat)} {N : Nat} {d : List Int} (h : Ls es N d) {k : Nat} (hk : k < N) : 0 ≤ d.getD k 0 := by
  obtain ⟨n, a, h1, _⟩ := h.snd k hk
  omega

theorem Ls.small {es : List (Nat × Nat)} {N : Nat} {d : List Int} {out : List Nat} (h : Ls es N d) (hT : Top es N out) (ho : out.length = N) {k : Nat} (hk : k < N) : d.getD k 0 < N := by
  obtain ⟨n, a, h1, h2⟩ := h.snd k hk
  have := hT.short n a k (nodup_all hT.nodup hT.lt ho k hk) h2
  omega

theorem Ls.step {es : List (Nat × Nat)} {N : Nat} {d : List Int} (h : Ls es N d) {e : Nat × Nat} (he : e ∈ es) (h1 : e.1 < N) (h2 : e.2 < N) : Ls es N (d.set e.2 (d.getD e.1 0 + 1)) := by
  have hl := h.len
  refine ⟨by rw [List.length_set]; exact h.len, fun k hk => ?_⟩
  rw [getD_set _ _ _ _ (by omega)]
  split
  · rename_i hke
    obtain ⟨n, a, h3, h4⟩ := h.snd e.1 h1
    exact ⟨n + 1, a, by rw [h3]; rfl, e.1, h4, by rw [hke]; exact he⟩
  · exact h.snd k hk

theorem IsL.ge {es : List (Nat × Nat)} {N : Nat} {d : List Int} (h : IsL es N d) (hv : ∀ e ∈ es, e.1 < N ∧ e.2 < N) : ∀ n a k, k < N → W es n a k → (n : Int) ≤ d.getD k 0 := by
  intro n
  induction n with
  | zero => intro a k hk _; exact h.toLs.nonneg hk
  | succ n ih =>
    rintro a k hk ⟨c, hc, he⟩
    have h1 := ih a c (hv _ he).1 hc
    have h2 := h.rel _ he
    simp only at h2
    omega

theorem IsL.eq {es : List (Nat × Nat)} {N : Nat} {d d' : List Int} (h : IsL es N d) (h' : IsL es N d') (hv : ∀ e ∈ es, e.1 < N ∧ e.2 < N) : d = d' := by
  apply List.ext_getElem (by rw [h.len, h'.len])
  intro k h1 h2
  have hk : k < N := by rw [← h.len]; exact h1
  have e1 : d.getD k 0 = d[k] := by rw [List.getD_eq_getElem?_getD, List.getElem?_eq_getElem h1]; rfl
  have e2 : d'.getD k 0 = d'[k] := by rw [List.getD_eq_getElem?_getD, List.getElem?_eq_getElem h2]; rfl
  obtain ⟨n, a, h3, h4⟩ := h.snd k hk
  obtain ⟨m, b, h5, h6⟩ := h'.snd k hk
  have := h.ge hv m b k hk h6
  have := h'.ge hv n a k hk h4
  omega

/-- What may still be added. -/
def slack (N : Nat) (d : List Int) : Nat := (d.map fun x : Int => ((N : Int) - x).toNat).sum

theorem slack_set (N : Nat) : ∀ (d : List Int) (t : Nat) (v : Int), t < d.length → d.getD t 0 < v → v ≤ N → slack N (d.set t v) < slack N d
  | [], t, v, h, _, _ => by simp at h
  | a :: d, 0, v, h, h1, h2 => by
    simp only [List.getD_cons_zero] at h1
    simp only [slack, List.set_cons_zero, List.map_cons, List.sum_cons]
    omega
  | a :: d, t + 1, v, h, h1, h2 => by
    have := slack_set N d t v (by simpa using h) (by simpa using h1) h2
    simp only [slack, List.set_cons_succ, List.map_cons, List.sum_cons] at this ⊢
    omega

/-- While the order is gone through: what has come is relaxed, and of the node at hand the first edges. -/
structure Lj (es : List (Nat × Nat)) (N : Nat) (pre : List Nat) (x j : Nat) (d : List Int) : Prop extends Ls es N d where
  old : ∀ e ∈ es, e.1 ∈ pre → d.getD e.1 0 + 1 ≤ d.getD e.2 0
  new : ∀ e ∈ es.take j, e.1 = x → d.getD e.1 0 + 1 ≤ d.getD e.2 0

theorem Lj.skip {es : List (Nat × Nat)} {N x j : Nat} {pre : List Nat} {d : List Int} (h : Lj es N pre x j d) (hj : j < es.length) (hx : (es.getD j (0, 0)).1 ≠ x) : Lj es N pre x (j + 1) d := by
  refine ⟨h.toLs, h.old, fun e he hex => ?_⟩
  rw [take_succ_getD' es j (0, 0) hj] at he
  rcases List.mem_append.1 he with he | he
  · exact h.new e he hex
  · rw [List.mem_singleton.1 he] at hex
    exact (hx hex).elim

theorem Lj.top {es : List (Nat × Nat)} {N x j : Nat} {pre : List Nat} {d : List Int} (h : Lj es N pre x j d) (hj : j < es.length) (hx : (es.getD j (0, 0)).1 = x) (hv : ∀ e ∈ es, e.1 < N ∧ e.2 < N)
    (h2 : (es.getD j (0, 0)).2 ≠ x) (h3 : (es.getD j (0, 0)).2 ∉ pre) : Lj es N pre x (j + 1) (d.set (es.getD j (0, 0)).2 (max (d.getD (es.getD j (0, 0)).2 0) (d.getD x 0 + 1))) := by
  have hme : es.getD j (0, 0) ∈ es := by
    rw [List.getD_eq_getElem?_getD, List.getElem?_eq_getElem hj]
    exact List.getElem_mem hj
  have hm := hv _ hme
  have hl := h.len
  generalize hE : es.getD j (0, 0) = f at *
  have hg := fun k v => getD_set d f.2 v k (by omega)
  have hLs : Ls es N (d.set f.2 (max (d.getD f.2 0) (d.getD x 0 + 1))) := by
    rcases Int.le_total (d.getD f.2 0) (d.getD x 0 + 1) with h4 | h4
    · rw [Int.max_eq_right h4, ← hx]
      exact h.toLs.step hme hm.1 hm.2
    · rw [Int.max_eq_left h4]
      refine ⟨by rw [List.length_set]; exact hl, fun k hk => ?_⟩
      rw [hg]
      split
      · rename_i hk2; rw [← hk2]; exact h.snd k hk
      · exact h.snd k hk
  refine ⟨hLs, fun e he hep => ?_, fun e he hex => ?_⟩
  · have h4 := h.old e he hep
    rw [hg, hg, if_neg (fun hh => h3 (by rw [← hh]; exact hep))]
    split
    · rename_i h5; rw [h5] at h4; omega
    · exact h4
  · rw [hg, hg, if_neg (fun hh => h2 (by rw [← hh]; exact hex))]
    rw [take_succ_getD' es j (0, 0) hj, hE] at he
    rcases List.mem_append.1 he with he | he
    · have h4 := h.new e he hex
      split
      · rename_i h5; rw [h5] at h4; omega
      · exact h4
    · rw [List.mem_singleton.1 he, if_pos rfl, hx]
      omega

theorem Lj.shut {es : List (Nat × Nat)} {N x : Nat} {pre : List Nat} {d : List Int} (h : Lj es N pre x es.length d) : ∀ e ∈ es, e.1 ∈ pre ++ [x] → d.getD e.1 0 + 1 ≤ d.getD e.2 0 := by
  intro e he hm
  rcases List.mem_append.1 hm with hm | hm
  · exact h.old e he hm
  · exact h.new e (by rw [List.take_length]; exact he) (List.mem_singleton.1 hm)
end Go.Plain
