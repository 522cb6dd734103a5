/-
  Ds against the model: rounds of a range over a function, operations that call, code.
-/
import Derived.Test.YtoanhpaipfgnfaaDsJ
set_option linter.unusedVariables false
set_option linter.unusedSimpArgs false
namespace Go.Ds
section
variable {P : Program} {ρ : Rho} {H : Heap} {w : World}

/-- A loop's record is turned. -/
theorem Post.putLoop (h : HRel P ρ H w) {L : Nat} {r r0 : Loop} {p : Place} {r' r0' : Loop} (hg : hget H L = some (.loop r0)) (hp : ρ L 0 = some p) (hw : w.heap[p.b]? = some (.loop r0')) (hr : LoopRel ρ r r') :
    Post P ρ H w ρ (hset H L (.loop r)) (w.putObj p.b (.loop r')) := by
  have hlt := blk_lt hw
  have hne : ∀ c, c ≠ p.b → (w.putObj p.b (.loop r')).heap[c]? = w.heap[c]? := fun c hc => by
    simp only [World.putObj]; rw [Array.getElem?_setIfInBounds_ne (Ne.symm hc)]
  have hsame : (w.putObj p.b (.loop r')).heap[p.b]? = some (.loop r') := by
    simp only [World.putObj]; rw [Array.getElem?_setIfInBounds_self_of_lt hlt]
  exact Post.upd h _ hg rfl hp (.refl ρ) (fun _ _ _ hq => .inl hq) (by simp [World.putObj]) hne rfl rfl rfl (fun _ _ _ _ _ e => by cases e) (fun _ _ _ e => by cases e)
    (fun r2 e => by injection e with e; subst e; exact ⟨p, r', hp, hsame, hr⟩) (fun f q hq => .inr ((h.one _ _ _ _ hq hg).resolve_left (by simp [Blk.isCells]))) (fun r2 _ => ⟨r', hsame⟩)

theorem loop_at (h : HRel P ρ H w) {L : Nat} {r : Loop} {p : Place} (hg : hget H L = some (.loop r)) (hp : ρ L 0 = some p) : ∃ r', w.heap[p.b]? = some (.loop r') ∧ LoopRel ρ r r' := by
  obtain ⟨q, r', hq, hw, hr⟩ := h.loop _ _ hg
  rw [hp] at hq
  obtain rfl := Option.some.inj hq
  exact ⟨r', hw, hr⟩

theorem foldl_tmps {ps : List Tmp} : ∀ {args args' : List Value} {l m : List Value}, All2 (V ρ) args args' → All2 (V ρ) l m →
    All2 (V ρ) ((ps.zip args).foldl (fun t (p, v) => t.set p v) l) ((ps.zip args').foldl (fun t (p, v) => t.set p v) m) := by
  induction ps with
  | nil => intro args args' l m _ h; simpa using h
  | cons q ps ih =>
    intro args args' l m ha h
    cases args with
    | nil => cases args' with | nil => simpa using h | cons => exact ha.elim
    | cons x args => cases args' with
      | nil => exact ha.elim
      | cons y args' =>
        simp only [List.zip_cons_cons, List.foldl_cons]
        exact ih ha.2 (h.set ha.1 q)

/-- **One round.** -/
theorem round_ok {ex : Run} (hex : ∀ c l H e l' H', ex c l H = some (e, l', H') → Sim P c l H e l' H') {L : Nat} {args : List Value} {v : Value} {H' : Heap} (hc : roundD ex L args H = some (v, H'))
    (hr : HRel P ρ H w) {p : Place} (hp : ρ L 0 = some p) {args' : Array Value} (ha : All2 (V ρ) args args'.toList) (k : Nat) :
    ∃ r', w.heap[p.b]? = some (.loop r') ∧ args'.size = r'.params.size ∧
      RoundIn (fe none) k P p.b r'.fn ((r'.params.zip args').foldl (fun tmps (t, a) => tmps.setIfInBounds t a) r'.tmps) r'.assign r'.body w
        fun e w' => ∃ ρ' v', e = .returned v' ∧ Post P ρ H w ρ' H' w' ∧ V ρ' v v' := by
  unfold roundD at hc
  split at hc
  · rename_i r hg
    obtain ⟨r', hw, hrel⟩ := loop_at hr hg hp
    split at hc
    · rename_i hcond
      obtain ⟨hsz, hst⟩ := hcond
      have hsz' : args'.size = r'.params.size := by rw [hrel.params, hsz]; simpa using ha.length.symm
      refine ⟨r', hw, hsz', roundIn_of_wpIn trivial ?_⟩
      split at hc
      · rename_i l1 H1 he1
        split at hc
        · rename_i r1 hg1
          split at hc
          · rename_i hst1
            have hE : All2 (V ρ) ((r.params.toList.zip args).foldl (fun t (p, v) => t.set p v) r.tmps.toList) ((r'.params.zip args').foldl (fun tmps (t, a) => tmps.setIfInBounds t a) r'.tmps).toList := by
              have e : ((r'.params.zip args').foldl (fun tmps (t, a) => tmps.setIfInBounds t a) r'.tmps).toList = (r.params.toList.zip args'.toList).foldl (fun t (p, v) => t.set p v) r'.tmps.toList := by
                rw [← Array.foldl_toList, Array.toList_zip, hrel.params]
                generalize r.params.toList.zip args'.toList = zs
                generalize r'.tmps = tm
                induction zs generalizing tm with
                | nil => rfl
                | cons z zs ih => simp only [List.foldl_cons]; rw [ih]; simp
              rw [e]
              exact foldl_tmps ha hrel.tmps
            have hs1 := hex _ _ _ _ _ _ he1 (some p.b) k w.heap.size ρ w { tmps := ((r'.params.zip args').foldl (fun tmps (t, a) => tmps.setIfInBounds t a) r'.tmps), defers := [] } hr hE
              (fun l hl => by cases hl; exact ⟨r', hw⟩) ⟨[], rfl, List.nodup_nil, by simp⟩ (Nat.le_refl _)
            rw [hrel.assign]
            refine wpIn_mono hs1 ?_
            rintro e' a1 w1 ⟨he', ρ1, hp1, hE1, hM1⟩
            subst he'
            obtain ⟨r1', hw1, hrel1⟩ := loop_at hp1.rel hg1 (hp1.le _ _ _ hp)
            have hbr := run_beginRound (P := P) hw1 (by rw [hrel1.state, hst1])
            have hp2 := Post.putLoop (r := { r1 with state := .busy }) (r' := { r1' with state := .busy }) hp1.rel hg1 (hp1.le _ _ _ hp) hw1 ⟨rfl, hrel1.pending, hrel1.tmps, hrel1.params, hrel1.assign, hrel1.body⟩
            refine ⟨_, hbr, ?_⟩
            split at hc
            · rename_i e l2 H2 he2
              split at hc
              · rename_i r2 hg2
                have hpost2 := hp1.trans hp2
                have hs2 := hex _ _ _ _ _ _ he2 (some p.b) k w.heap.size ρ1 _ a1 hp2.rel hE1
                  (fun l hl => by cases hl; exact hpost2.loops _ _ hw) (hM1.post hp1.rel hp2) hpost2.size
                rw [hrel.body]
                refine wpIn_mono hs2 ?_
                rintro e3 a3 w3 ⟨he3, ρ3, hp3, hE3, hM3⟩
                obtain ⟨r2', hw2, hrel2⟩ := loop_at hp3.rel hg2 (hp3.le _ _ _ (hp1.le _ _ _ hp))
                have hpost3 := hpost2.trans hp3
                have fin : ∀ jump : Option Code, (some (Value.bool jump.isNone, hset H2 L (.loop { r2 with state := if jump.isNone then .ready else .done, pending := jump })) : Option (Value × Heap)) = some (v, H') →
                    ∃ v' w', (Instr.endRound p.b jump).run P w3 = .ok v' w' ∧ ∃ ρ' v2, Ending.returned v' = .returned v2 ∧ Post P ρ H w ρ' H' w' ∧ V ρ' v v2 := fun jump hj => by
                  injection (Option.some.inj hj) with e1 e2
                  subst e1 e2
                  have hp4 := Post.putLoop (r := { r2 with state := if jump.isNone then .ready else .done, pending := jump }) (r' := { r2' with state := if jump.isNone then .ready else .done, pending := jump })
                    hp3.rel hg2 (hp3.le _ _ _ (hp1.le _ _ _ hp)) hw2 ⟨rfl, rfl, hrel2.tmps, hrel2.params, hrel2.assign, hrel2.body⟩
                  exact ⟨_, _, run_endRound jump hw2, _, _, rfl, hpost3.trans hp4, .of_flat rfl⟩
                cases e with
                | normal => subst he3; exact fin none hc
                | exit id => subst he3; exact fin (some (.exit id)) hc
                | ret => subst he3; exact fin (some .ret) hc
              · cases hc
            · cases hc
          · cases hc
        · cases hc
      · cases hc
    · cases hc
  · cases hc
end
end Go.Ds
