/-
  Ds against the model: a block that is written, a row that grows.
-/
import Derived.Test.YtoanhpaipfgnfaaDsB
set_option linter.unusedVariables false
set_option linter.unusedSimpArgs false
namespace Go.Ds

theorem HRel.full_hset {P : Program} {ρ : Rho} {H : Heap} {w : World} (h : HRel P ρ H w) (A : Nat) (b : Blk) : ∀ B, B < (hset H A b).length → (hget (hset H A b) B).isSome = true := fun B hB => by
  rw [length_hset] at hB
  by_cases he : A = B
  · subst he; rw [hget_hset_same _ hB]; rfl
  · rw [hget_hset_ne _ he]; exact h.full B hB

/-- **A block of ours is written.** -/
theorem Post.upd {P : Program} {ρ ρ' : Rho} {H : Heap} {w w' : World} (h : HRel P ρ H w) {A e : Nat} {blk : Blk} {p : Place} (blk' : Blk) (hg : hget H A = some blk) (hwr : blk.wr = true) (hp : ρ A e = some p)
    (hle : ρ.Le ρ') (hnew : ∀ B f q, ρ' B f = some q → ρ B f = some q ∨ (B = A ∧ q.b = p.b ∧ q.d = p.d))
    (hsz : w'.heap.size = w.heap.size) (hoth : ∀ b, b ≠ p.b → w'.heap[b]? = w.heap[b]?) (hos : w'.os = w.os) (htape : w'.tape = w.tape) (hout : w'.output = w.output)
    (hc : ∀ cs ty rw lo ver, blk' = .cells cs ty rw lo ver → (∃ q, ρ' A cs.length = some q) ∧ ∀ f q, ρ' A f = some q → CellsAt P ρ' w' cs ty rw lo f q)
    (hm : ∀ es ck ver, blk' = .map es ck ver → ∃ q es', ρ' A 0 = some q ∧ w'.heap[q.b]? = some (.map es' ck) ∧ All2 (EntryRel ρ') es es'.toList)
    (hl : ∀ r, blk' = .loop r → ∃ q r', ρ' A 0 = some q ∧ w'.heap[q.b]? = some (.loop r') ∧ LoopRel ρ' r r')
    (hone : ∀ f q, ρ' A f = some q → blk'.isCells = true ∨ f = 0)
    (hloops : ∀ r, w.heap[p.b]? = some (Obj.loop r) → ∃ r', w'.heap[p.b]? = some (Obj.loop r')) :
    Post P ρ H w ρ' (hset H A blk') w' := by
  have hA := hget_lt hg
  have hpb := (h.dom _ _ _ hp).2
  have hold : ∀ B f q, B ≠ A → ρ' B f = some q → ρ B f = some q ∧ q.b ≠ p.b := fun B f q hne hq => by
    rcases hnew B f q hq with hq' | ⟨e, _⟩
    · exact ⟨hq', fun hb => hne (h.excl _ _ _ _ _ _ _ hp hq' hb.symm hg hwr).1⟩
    · exact absurd e hne
  have hrel : HRel P ρ' (hset H A blk') w' := by
    refine ⟨?_, ?_, ?_, ?_, ?_, ?_, h.full_hset _ _⟩
    · intro B f q hq
      rw [length_hset, hsz]
      rcases hnew B f q hq with hq' | ⟨rfl, hb, _⟩
      · exact h.dom _ _ _ hq'
      · exact ⟨hA, by rw [hb]; exact hpb⟩
    · intro B cs ty rw lo ver hg'
      by_cases hB : B = A
      · subst hB
        rw [hget_hset_same _ hA] at hg'
        exact hc _ _ _ _ _ (Option.some.inj hg')
      · rw [hget_hset_ne _ (Ne.symm hB)] at hg'
        obtain ⟨⟨q, hq⟩, hall⟩ := h.cells _ _ _ _ _ _ hg'
        refine ⟨⟨q, hle _ _ _ hq⟩, fun f q hq => ?_⟩
        obtain ⟨hq', hne⟩ := hold B f q hB hq
        exact (hall f q hq').world hle (hoth _ hne)
    · intro B es ck ver hg'
      by_cases hB : B = A
      · subst hB
        rw [hget_hset_same _ hA] at hg'
        exact hm _ _ _ (Option.some.inj hg')
      · rw [hget_hset_ne _ (Ne.symm hB)] at hg'
        obtain ⟨q, es', hq, hw, hall⟩ := h.map _ _ _ _ hg'
        exact ⟨q, es', hle _ _ _ hq, by rw [hoth _ (hold B 0 q hB (hle _ _ _ hq)).2, hw], hall.mono fun _ _ x => x.mono hle⟩
    · intro B r hg'
      by_cases hB : B = A
      · subst hB
        rw [hget_hset_same _ hA] at hg'
        exact hl _ (Option.some.inj hg')
      · rw [hget_hset_ne _ (Ne.symm hB)] at hg'
        obtain ⟨q, r', hq, hw, hall⟩ := h.loop _ _ hg'
        exact ⟨q, r', hle _ _ _ hq, by rw [hoth _ (hold B 0 q hB (hle _ _ _ hq)).2, hw], hall.mono hle⟩
    · intro B f q b hq hg'
      by_cases hB : B = A
      · subst hB
        rw [hget_hset_same _ hA] at hg'
        obtain rfl := Option.some.inj hg'
        exact hone f q hq
      · rw [hget_hset_ne _ (Ne.symm hB)] at hg'
        exact h.one _ _ _ _ (hold B f q hB hq).1 hg'
    · intro B f q B2 f2 q2 b hq hq2 hbb hg' hw
      -- every place of A is at p's block and shift, where one is
      have hAd : ∀ f q, ρ' A f = some q → q.b = p.b → q.d = p.d := fun f q hq hb => by
        rcases hnew A f q hq with hq' | ⟨_, _, hd⟩
        · exact (h.excl _ _ _ _ _ _ _ hp hq' hb.symm hg hwr).2
        · exact hd
      by_cases hB : B = A
      · subst hB
        by_cases hB2 : B2 = B
        · subst hB2
          refine ⟨rfl, ?_⟩
          rcases hnew B2 f q hq with hq' | ⟨_, hb, hd⟩
          · rcases hnew B2 f2 q2 hq2 with hq2' | ⟨_, hb2, hd2⟩
            · exact (h.excl _ _ _ _ _ _ _ hq' hq2' hbb hg hwr).2
            · rw [hd2]; exact (hAd f q hq (hbb.trans hb2)).symm
          · rw [hd]; exact hAd f2 q2 hq2 (hbb ▸ hb)
        · obtain ⟨hq2', hne⟩ := hold B2 f2 q2 hB2 hq2
          rcases hnew B f q hq with hq' | ⟨_, hb, _⟩
          · exact h.excl _ _ _ _ _ _ _ hq' hq2' hbb hg hwr
          · exact absurd (hbb ▸ hb) hne
      · rw [hget_hset_ne _ (Ne.symm hB)] at hg'
        obtain ⟨hq', hne⟩ := hold B f q hB hq
        rcases hnew B2 f2 q2 hq2 with hq2' | ⟨rfl, hb2, _⟩
        · exact h.excl _ _ _ _ _ _ _ hq' hq2' hbb hg' hw
        · exact absurd (hbb.trans hb2) hne
  refine ⟨hle, hrel, by rw [length_hset]; exact Nat.le_refl _, by rw [hsz]; exact Nat.le_refl _, hos, htape, hout, fun b _ hw => ?_, fun b r hr => ?_, fun b _ hw B f q hq => ?_⟩
  rotate_right
  · rcases hnew B f q hq with hq' | ⟨_, e, _⟩
    · exact hw _ _ _ hq'
    · rw [e]; exact hw _ _ _ hp
  · have hb : b ≠ p.b := fun e => hw ⟨A, _, p, blk, hp, e.symm, hg, hwr⟩
    refine ⟨hoth _ hb, ?_⟩
    rintro ⟨B, f, q, b', hq, rfl, hg', hw'⟩
    by_cases hB : B = A
    · subst hB
      rcases hnew B f q hq with hq' | ⟨_, e, _⟩
      · exact hw ⟨B, f, q, blk, hq', rfl, hg, hwr⟩
      · exact hb e
    · rw [hget_hset_ne _ (Ne.symm hB)] at hg'
      exact hw ⟨B, f, q, b', (hold B f q hB hq).1, rfl, hg', hw'⟩
  · by_cases hb : b = p.b
    · subst hb; exact hloops r hr
    · exact ⟨r, by rw [hoth _ hb, hr]⟩

/-- Cells that grow at their end: what an elder extent sees stays. -/
theorem CellsAt.grow {P : Program} {ρ : Rho} {w : World} {cs : List Value} {ty : TypeId} {rw : Bool} {lo e : Nat} {p : Place} (l : List Value)
    (h : CellsAt P ρ w cs ty rw lo e p) : CellsAt P ρ w (cs ++ l) ty rw lo e p := by
  obtain ⟨h1, h2, h3, cur, ty', fr, h4, h5, h6, h7⟩ := h
  exact ⟨by simp; omega, h2, h3, cur, ty', fr, h4, h5, h6, fun hlo i c hi h0 hc => h7 hlo i c hi h0 (by rwa [List.getElem?_append_left (by omega)] at hc)⟩

/-- **A row of ours grows into a new block.** -/
theorem Post.regrow {P : Program} {ρ : Rho} {H : Heap} {w : World} (h : HRel P ρ H w) {A : Nat} {cs : List Value} {ty : TypeId} {lo ver : Nat} (l : List Value) (o : Obj) (p : Place)
    (hg : hget H A = some (.cells cs ty true lo ver)) (hl : l ≠ []) (hb : p.b = w.heap.size)
    (hc : CellsAt P (ρ.put A (cs.length + l.length) p) (w.alloc o) (cs ++ l) ty true lo (cs.length + l.length) p) :
    Post P ρ H w (ρ.put A (cs.length + l.length) p) (hset H A (.cells (cs ++ l) ty true lo ver)) (w.alloc o) := by
  have hA := hget_lt hg
  have hlen : 0 < l.length := List.length_pos_iff.2 hl
  obtain ⟨⟨p0, hp0⟩, hall0⟩ := h.cells _ _ _ _ _ _ hg
  have hno : ρ A (cs.length + l.length) = none := by
    cases hh : ρ A (cs.length + l.length) with
    | none => rfl
    | some q => have := (hall0 _ _ hh).le; omega
  have hle : ρ.Le (ρ.put A (cs.length + l.length) p) := .put hno
  have hold : ∀ B f q, (ρ.put A (cs.length + l.length) p) B f = some q → (B = A ∧ f = cs.length + l.length ∧ q = p) ∨ (ρ B f = some q ∧ q.b < w.heap.size) := fun B f q hq => by
    by_cases hh : B = A ∧ f = cs.length + l.length
    · obtain ⟨rfl, rfl⟩ := hh; rw [Rho.put_same] at hq; exact .inl ⟨rfl, rfl, (Option.some.inj hq).symm⟩
    · rw [Rho.put_ne hh] at hq; exact .inr ⟨hq, (h.dom _ _ _ hq).2⟩
  have hrel : HRel P (ρ.put A (cs.length + l.length) p) (hset H A (.cells (cs ++ l) ty true lo ver)) (w.alloc o) := by
    refine ⟨?_, ?_, ?_, ?_, ?_, ?_, h.full_hset _ _⟩
    · intro B f q hq
      rw [length_hset]
      rcases hold B f q hq with ⟨rfl, rfl, rfl⟩ | ⟨hq', hqb⟩
      · exact ⟨hA, by rw [hb]; simp⟩
      · exact ⟨(h.dom _ _ _ hq').1, by simp; omega⟩
    · intro B cs' ty' rw' lo' ver' hg'
      by_cases hB : B = A
      · subst hB
        rw [hget_hset_same _ hA] at hg'
        injection (Option.some.inj hg') with e1 e2 e3 e4 e5
        subst e1 e2 e3 e4 e5
        refine ⟨⟨p, by rw [List.length_append, Rho.put_same]⟩, fun f q hq => ?_⟩
        rcases hold _ f q hq with ⟨_, rfl, rfl⟩ | ⟨hq', hqb⟩
        · exact hc
        · exact ((hall0 f q hq').world hle (heap_alloc_old hqb)).grow l
      · rw [hget_hset_ne _ (Ne.symm hB)] at hg'
        obtain ⟨⟨q, hq⟩, hall⟩ := h.cells _ _ _ _ _ _ hg'
        refine ⟨⟨q, hle _ _ _ hq⟩, fun f q hq => ?_⟩
        rcases hold _ f q hq with ⟨e, _, _⟩ | ⟨hq', hqb⟩
        · exact absurd e hB
        · exact (hall f q hq').world hle (heap_alloc_old hqb)
    · intro B es ck ver' hg'
      by_cases hB : B = A
      · subst hB
        rw [hget_hset_same _ hA] at hg'; cases hg'
      · rw [hget_hset_ne _ (Ne.symm hB)] at hg'
        obtain ⟨q, es', hq, hw, hall⟩ := h.map _ _ _ _ hg'
        exact ⟨q, es', hle _ _ _ hq, by rw [heap_alloc_old (blk_lt hw), hw], hall.mono fun _ _ x => x.mono hle⟩
    · intro B r hg'
      by_cases hB : B = A
      · subst hB
        rw [hget_hset_same _ hA] at hg'; cases hg'
      · rw [hget_hset_ne _ (Ne.symm hB)] at hg'
        obtain ⟨q, r', hq, hw, hall⟩ := h.loop _ _ hg'
        exact ⟨q, r', hle _ _ _ hq, by rw [heap_alloc_old (blk_lt hw), hw], hall.mono hle⟩
    · intro B f q b hq hg'
      by_cases hB : B = A
      · subst hB
        rw [hget_hset_same _ hA] at hg'
        obtain rfl := Option.some.inj hg'
        exact .inl rfl
      · rw [hget_hset_ne _ (Ne.symm hB)] at hg'
        rcases hold _ f q hq with ⟨e, _, _⟩ | ⟨hq', _⟩
        · exact absurd e hB
        · exact h.one _ _ _ _ hq' hg'
    · intro B f q B2 f2 q2 b hq hq2 hbb hg' hw
      rcases hold _ f q hq with ⟨rfl, rfl, rfl⟩ | ⟨hq', hqb⟩
      · rcases hold _ f2 q2 hq2 with ⟨rfl, rfl, rfl⟩ | ⟨hq2', hqb2⟩
        · exact ⟨rfl, rfl⟩
        · omega
      · rcases hold _ f2 q2 hq2 with ⟨rfl, rfl, rfl⟩ | ⟨hq2', hqb2⟩
        · omega
        · by_cases hB : B = A
          · subst hB
            exact h.excl _ _ _ _ _ _ _ hq' hq2' hbb hg rfl
          · rw [hget_hset_ne _ (Ne.symm hB)] at hg'
            exact h.excl _ _ _ _ _ _ _ hq' hq2' hbb hg' hw
  refine ⟨hle, hrel, by rw [length_hset]; exact Nat.le_refl _, by simp, rfl, rfl, rfl, fun b hb' hw => ⟨heap_alloc_old hb', ?_⟩, fun b r hr => ⟨r, by rw [heap_alloc_old (blk_lt hr), hr]⟩, fun b hb' hw B f q hq => ?_⟩
  case refine_2 =>
    rcases hold _ f q hq with ⟨rfl, rfl, rfl⟩ | ⟨hq', _⟩
    · omega
    · exact hw _ _ _ hq'
  rintro ⟨B, f, q, b', hq, rfl, hg', hw'⟩
  rcases hold _ f q hq with ⟨rfl, rfl, rfl⟩ | ⟨hq', _⟩
  · omega
  · by_cases hB : B = A
    · subst hB
      exact hw ⟨B, f, q, _, hq', rfl, hg, rfl⟩
    · rw [hget_hset_ne _ (Ne.symm hB)] at hg'
      exact hw ⟨B, f, q, b', hq', rfl, hg', hw'⟩

end Go.Ds
