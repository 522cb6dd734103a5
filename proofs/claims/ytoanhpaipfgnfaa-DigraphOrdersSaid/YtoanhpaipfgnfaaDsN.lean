/-
  Ds against the model: all code.
-/
import Derived.Test.YtoanhpaipfgnfaaDsP
set_option linter.unusedVariables false
set_option linter.unusedSimpArgs false
namespace Go.Ds
section
variable {P : Program} {ρ : Rho} {H : Heap} {w : World}

theorem inBlock_mono {B : Nat} {id : Nat} {e : Ex} {l' : List Value} {H' : Heap} {e2 : Ex} (he : e2 = (match e with | .exit i => if i = id then .normal else .exit i | e => e)) {e' : Exit} {a' : Act} {w' : World}
    (h : QD P ρ H w B e l' H' e' a' w') : Exit.inBlock id (QD P ρ H w B e2 l' H') e' a' w' := by
  obtain ⟨h1, h2⟩ := h
  subst h1
  cases e with
  | normal => simp only at he; subst he; exact ⟨rfl, h2⟩
  | ret => simp only at he; subst he; exact ⟨rfl, h2⟩
  | exit i =>
    simp only [Ex.exit', Exit.inBlock] at he ⊢
    by_cases hi : i = id
    · rw [if_pos hi] at he; subst he; rw [if_pos hi]; exact ⟨rfl, h2⟩
    · rw [if_neg hi] at he; subst he; rw [if_neg hi]; exact ⟨rfl, h2⟩

theorem then_mono {B : Nat} {e : Ex} {l' : List Value} {H' : Heap} (hne : e ≠ .normal) {next : Act → World → Prop} {e' : Exit} {a' : Act} {w' : World}
    (h : QD P ρ H w B e l' H' e' a' w') : Exit.then next (QD P ρ H w B e l' H') e' a' w' := by
  have h1 := h.1
  cases e with
  | normal => exact absurd rfl hne
  | exit id => subst h1; exact h
  | ret => subst h1; exact h

theorem rho_new (h : HRel P ρ H w) (e : Nat) (p : Place) : ρ.Le (ρ.put H.length e p) := .put (rho_none h e)

/-- A range over a function. -/
theorem range_ok {ex : Run} (hex : ∀ c l H e l' H', ex c l H = some (e, l', H') → Sim P c l H e l' H') {g : Operand} {ps : Array Tmp} {assign body : Code} {l : List Value} {v : Value} {H2 : Heap}
    (hc : enterD P ex (ev l g) H.length (H.cons (.loop { state := .ready, pending := none, fn := 0, tmps := l.toArray, params := ps, assign, body, defers := 0 })) = some (v, H2)) (hgo : operandOk g = true) {r : Loop} (hg : hget H2 H.length = some (.loop r)) (hnb : r.state ≠ .busy)
    {e : Ex} {l' : List Value} {H' : Heap} (hnext0 : r.pending = none → e = .normal ∧ l' = l ∧ H' = hset H2 H.length (.loop { r with state := .exhausted }))
    (hnext1 : ∀ c, r.pending = some c → Sim P c l (hset H2 H.length (.loop { r with state := .exhausted })) e l' H') : Sim P (.rangeFunc g ps assign body) l H e l' H' := by
  intro ro k B ρ w a hr hE hl hM hB
  refine wpIn_rangeFunc ?_
  intro fn _
  -- the record, and the mark
  obtain ⟨lc, mark, w1, df, henter, hpost0, hmark, hlc, hw1⟩ : ∃ (lc : Nat) (mark : List Deferred) (w1 : World) (df : Nat),
      (Instr.enterLoop fn a.tmps ps assign body ro).run P w = .ok (lc, mark) w1 ∧
      Post P ρ H w (ρ.put H.length 0 ⟨lc, 0, 0, 0⟩) (H.cons (.loop { state := .ready, pending := none, fn := 0, tmps := l.toArray, params := ps, assign, body, defers := 0 })) w1 ∧
      Marks B w1 (mark ++ a.defers) ∧ w.heap.size ≤ lc ∧ w1.heap[lc]? = some (.loop { state := .ready, pending := none, fn := fn, tmps := a.tmps, params := ps, assign, body, defers := df }) := by
    have hloop : ∀ (ρ : Rho) (w : World), HRel P ρ H w → All2 (V ρ) l a.tmps.toList → ∀ df : Nat, Post P ρ H w (ρ.put H.length 0 ⟨w.heap.size, 0, 0, 0⟩) (H.cons (.loop { state := .ready, pending := none, fn := 0, tmps := l.toArray, params := ps, assign, body, defers := 0 }))
        (w.alloc (.loop { state := .ready, pending := none, fn := fn, tmps := a.tmps, params := ps, assign, body, defers := df })) := fun ρ w hr hE df => by
      refine Post.new hr _ _ 0 ⟨w.heap.size, 0, 0, 0⟩ rfl (fun _ _ _ _ _ e => by cases e) (fun _ _ _ e => by cases e) (fun r e => ?_)
      injection e with e
      subst e
      refine ⟨rfl, _, rfl, rfl, rfl, ?_, rfl, rfl, rfl⟩
      simpa using hE.mono fun _ _ h => h.mono (rho_new hr _ _)
    cases ro with
    | none =>
      have hp1 := Post.allocOther hr (.deferred (some []))
      have hp2 := hloop ρ (w.alloc (.deferred (some []))) hp1.rel hE w.heap.size
      rw [World.size_alloc] at hp2
      refine ⟨w.heap.size + 1, [{ target := .collected w.heap.size, args := #[] }], _, w.heap.size, run_enterLoop_outer fn a.tmps ps assign body, hp1.trans hp2, ?_, by omega, ?_⟩
      · obtain ⟨rs, h1, h2, h3⟩ := hM.post hr (hp1.trans hp2)
        refine ⟨w.heap.size :: rs, by simp [h1], List.nodup_cons.2 ⟨fun hmem => ?_, h2⟩, fun q hq => ?_⟩
        · obtain ⟨rs0, k1, k2, k3⟩ := hM
          have e : rs0 = rs := by
            have := k1.symm.trans h1
            have inj : ∀ (x y : List Nat), x.map Target.collected = y.map Target.collected → x = y := by
              intro x
              induction x with
              | nil => intro y h; cases y with | nil => rfl | cons => simp at h
              | cons a x ih => intro y h; cases y with | nil => simp at h | cons b y => simp at h; rw [h.1, ih y h.2]
            exact inj _ _ this
          subst e
          have := blk_lt (k3 _ hmem).2
          omega
        · rcases List.mem_cons.1 hq with rfl | hq
          · refine ⟨hB, ?_⟩
            rw [heap_alloc_old (by simp)]
            exact heap_alloc_new w _
          · exact h3 q hq
      · have := heap_alloc_new (w.alloc (.deferred (some []))) (.loop { state := .ready, pending := none, fn := fn, tmps := a.tmps, params := ps, assign, body, defers := w.heap.size })
        rwa [World.size_alloc] at this
    | some l0 =>
      obtain ⟨r0, hr0⟩ := hl l0 rfl
      have hp2 := hloop ρ w hr hE r0.defers
      refine ⟨w.heap.size, [], _, r0.defers, ?_, hp2, by simpa using hM.post hr hp2, Nat.le_refl _, heap_alloc_new w _⟩
      unfold Instr.enterLoop
      simp only [Sem.run_bind, run_getLoop hr0, run_newObj_alloc, Result.andThen_ok, Sem.run_pure]
  unfold enterD at hc
  split at hc
  · rename_i f first captured hev
    have hgv := ev_ok hE hgo
    rw [hev] at hgv
    obtain ⟨first', captured', hfe, hfa, hfc⟩ := hgv.fn_inv
    obtain ⟨fnc, hfn, hbody, hname⟩ := callF_fn hc
    have hLp : (ρ.put H.length 0 ⟨lc, 0, 0, 0⟩) H.length 0 = some ⟨lc, 0, 0, 0⟩ := Rho.put_same _ _ _ _
    refine ⟨lc, mark, w1, { target := .fn (.func f) captured', args := first' ++ #[Value.func (.yield lc) #[] #[]] }, w1, f, first' ++ #[Value.func (.yield lc) #[] #[]] ++ captured', w1, henter, ?_, fun _ _ => trivial, ?_, fe_depth ro, ?_⟩
    · simp only [resolve, hfe, Deferred.ofValue, Sem.run_pure]
      simp [Act.eval]
    · simp only [invoke]
      exact run_callFunc hfn hbody hname _ w1
    · have hargs : All2 (V (ρ.put H.length 0 ⟨lc, 0, 0, 0⟩)) (first.toList ++ [Value.func (.yield H.length) #[] #[]] ++ captured.toList) (first' ++ #[Value.func (.yield lc) #[] #[]] ++ captured').toList := by
        simp only [Array.toList_append]
        exact ((((hfa.mono fun _ _ h => h.mono hpost0.le).v_of_c0).append (show All2 (V _) [Value.func (.yield H.length) #[] #[]] [Value.func (.yield lc) #[] #[]] from ⟨.v1 (.c1 (C1.yld hLp)), trivial⟩)).append (hfc.mono fun _ _ h => h.mono hpost0.le).v_of_c0)
      have hcall := callF_ok hex hc (k - 1) _ w1 _ hpost0.rel hargs
      have hci : CallsIn (fe ro) (k - 1) P f (first' ++ #[Value.func (.yield lc) #[] #[]] ++ captured') w1 fun e w' => ∃ ρ' v', e = .returned v' ∧ Post P (ρ.put H.length 0 ⟨lc, 0, 0, 0⟩) _ w1 ρ' H2 w' ∧ V ρ' v v' := hcall
      refine hci.mono ?_
      rintro e2 w2 ⟨ρ2, v2, rfl, hp2, _⟩
      obtain ⟨r', hw2, hrel⟩ := loop_at hp2.rel hg (hp2.le _ _ _ hLp)
      have hp3 := Post.putLoop (r := { r with state := .exhausted }) (r' := { r' with state := .exhausted }) hp2.rel hg (hp2.le _ _ _ hLp) hw2 ⟨rfl, hrel.pending, hrel.tmps, hrel.params, hrel.assign, hrel.body⟩
      have hend := run_endLoop (P := P) hw2 (by rw [hrel.state]; exact hnb)
      revert hp3 hend
      generalize w2.putObj lc (.loop { r' with state := .exhausted }) = w3
      intro hp3 hend
      have hall := hpost0.trans (hp2.trans hp3)
      have hM3 : Marks B _ (mark ++ a.defers) := hmark.post hpost0.rel (hp2.trans hp3)
      have hE3 := hE.mono fun _ _ h => h.mono hall.le
      refine ⟨r'.pending, w3, hend, ?_⟩
      rw [hrel.pending]
      cases hpend : r.pending with
      | none =>
        obtain ⟨rfl, rfl, rfl⟩ := hnext0 hpend
        exact ⟨rfl, ρ2, hall, hE3, hM3⟩
      | some c =>
        refine wpIn_mono (hnext1 c hpend ro k B ρ2 _ { a with defers := mark ++ a.defers } hp3.rel hE3 (hl.post hall) hM3 (Nat.le_trans hB hall.size)) ?_
        intro e5 a5 w5 hq
        exact hq.trans hall
  · cases hc

/-- **Ds IS SOUND.** -/
theorem exD_ok (hmix : P.follows .mixedOrders = true) : ∀ (n : Nat),
    (∀ (c : Code) (l : List Value) (H : Heap) (e : Ex) (l' : List Value) (H' : Heap), exD P n c l H = some (e, l', H') → Sim P c l H e l' H') ∧
    (∀ (c : Code) (l : List Value) (H : Heap) (e : Ex) (l' : List Value) (H' : Heap), exD P n (.loop c) l H = some (e, l', H') →
      ∀ (ro : Option Nat) (k B : Nat) (ρ : Rho) (w : World) (a : Act), HRel P ρ H w → All2 (V ρ) l a.tmps.toList → LoopAt ro w → Marks B w a.defers → B ≤ w.heap.size → Code.roundsIn (fe ro) k P c (QD P ρ H w B e l' H') n a w) := by
  intro n
  induction n with
  | zero =>
    constructor
    · intro c l H e l' H' h; simp only [exD] at h; cases h
    · intro c l H e l' H' h; simp only [exD] at h; cases h
  | succ n ihn =>
    obtain ⟨ih, ihl⟩ := ihn
    have hloop : ∀ (c : Code) (l : List Value) (H : Heap) (e : Ex) (l' : List Value) (H' : Heap), exD P (n + 1) (.loop c) l H = some (e, l', H') →
      ∀ (ro : Option Nat) (k B : Nat) (ρ : Rho) (w : World) (a : Act), HRel P ρ H w → All2 (V ρ) l a.tmps.toList → LoopAt ro w → Marks B w a.defers → B ≤ w.heap.size → Code.roundsIn (fe ro) k P c (QD P ρ H w B e l' H') (n + 1) a w := by
      intro c l H e l' H' hex ro k B ρ w a hr hE hl hM hB
      rw [roundsIn_succ]
      simp only [exD] at hex
      split at hex
      · rename_i l1 H1 h1
        refine wpIn_mono (ih _ _ _ _ _ _ h1 ro k B ρ w a hr hE hl hM hB) ?_
        rintro e' a' w' ⟨he, ρ', hp, hE', hM'⟩
        subst he
        have := ihl _ _ _ _ _ _ hex ro k B ρ' w' a' hp.rel hE' (hl.post hp) hM' (Nat.le_trans hB hp.size)
        have mono : ∀ (m : Nat) (a : Act) (w2 : World), Code.roundsIn (fe ro) k P c (QD P ρ' H1 w' B e l' H') m a w2 → Code.roundsIn (fe ro) k P c (QD P ρ H w B e l' H') m a w2 := by
          intro m
          induction m with
          | zero => intro a w2 h; exact h
          | succ m ihm =>
            intro a w2 h
            rw [roundsIn_succ] at h ⊢
            refine wpIn_mono h ?_
            intro e3 a3 w3 hq
            cases e3 <;> first | exact ihm _ _ hq | exact hq.trans hp
        exact mono _ _ _ this
      · rename_i hne
        have hen : e ≠ .normal := fun he => by subst he; exact hne _ _ hex
        exact wpIn_mono (ih _ _ _ _ _ _ hex ro k B ρ w a hr hE hl hM hB) fun e' a' w' hq => then_mono hen hq
    refine ⟨?_, hloop⟩
    intro c l H e l' H' hex
    cases c with
    | skip =>
      simp only [exD, Option.some.injEq, Prod.mk.injEq] at hex
      obtain ⟨rfl, rfl, rfl⟩ := hex
      intro ro k B ρ w a hr hE hl hM hB
      exact wpIn_skip ⟨rfl, ρ, .refl hr, hE, hM⟩
    | label t =>
      simp only [exD, Option.some.injEq, Prod.mk.injEq] at hex
      obtain ⟨rfl, rfl, rfl⟩ := hex
      intro ro k B ρ w a hr hE hl hM hB
      exact wpIn_label ⟨rfl, ρ, .refl hr, hE, hM⟩
    | exit id =>
      simp only [exD, Option.some.injEq, Prod.mk.injEq] at hex
      obtain ⟨rfl, rfl, rfl⟩ := hex
      intro ro k B ρ w a hr hE hl hM hB
      exact wpIn_exit ⟨rfl, ρ, .refl hr, hE, hM⟩
    | ret =>
      simp only [exD, Option.some.injEq, Prod.mk.injEq] at hex
      obtain ⟨rfl, rfl, rfl⟩ := hex
      intro ro k B ρ w a hr hE hl hM hB
      exact wpIn_ret ⟨rfl, ρ, .refl hr, hE, hM⟩
    | seq x y =>
      simp only [exD] at hex
      intro ro k B ρ w a hr hE hl hM hB
      refine wpIn_seq ?_
      split at hex
      · rename_i l1 H1 h1
        exact QD.then_ (ih _ _ _ _ _ _ h1) (ih _ _ _ _ _ _ hex) hr hE hl hM hB (l := l)
      · rename_i hne
        have hen : e ≠ .normal := fun he => by subst he; exact hne _ _ hex
        exact wpIn_mono (ih _ _ _ _ _ _ hex ro k B ρ w a hr hE hl hM hB) fun e' a' w' hq => then_mono hen hq
    | cond c x y =>
      simp only [exD] at hex
      intro ro k B ρ w a hr hE hl hM hB
      split at hex
      · rename_i t hc
        split at hex
        · rename_i hco
          have hv := ev_ok hE hco
          rw [hc] at hv
          exact wpIn_cond hv.bool_inv (ih _ _ _ _ _ _ hex ro k B ρ w a hr hE hl hM hB)
        · cases hex
      · cases hex
    | block id b =>
      simp only [exD] at hex
      intro ro k B ρ w a hr hE hl hM hB
      refine wpIn_block ?_
      split at hex
      · rename_i i l1 H1 h1
        refine wpIn_mono (ih _ _ _ _ _ _ h1 ro k B ρ w a hr hE hl hM hB) fun e' a' w' hq => ?_
        by_cases hi : i = id
        · rw [if_pos hi] at hex
          simp only [Option.some.injEq, Prod.mk.injEq] at hex
          obtain ⟨rfl, rfl, rfl⟩ := hex
          exact inBlock_mono (by simp [hi]) hq
        · rw [if_neg hi] at hex
          simp only [Option.some.injEq, Prod.mk.injEq] at hex
          obtain ⟨rfl, rfl, rfl⟩ := hex
          exact inBlock_mono (by simp [hi]) hq
      · rename_i hne
        refine wpIn_mono (ih _ _ _ _ _ _ hex ro k B ρ w a hr hE hl hM hB) fun e' a' w' hq => ?_
        refine inBlock_mono ?_ hq
        cases e with
        | normal => rfl
        | ret => rfl
        | exit i => exact absurd hex (hne i _ _)
    | loop b =>
      intro ro k B ρ w a hr hE hl hM hB
      exact wpIn_loop_rounds (n + 1) (hloop _ _ _ _ _ _ hex ro k B ρ w a hr hE hl hM hB)
    | region id ops d =>
      cases d with
      | false =>
        simp only [exD, Option.map_eq_some_iff] at hex
        obtain ⟨⟨l1, H1⟩, ho, hq⟩ := hex
        simp only [Prod.mk.injEq] at hq
        obtain ⟨rfl, rfl, rfl⟩ := hq
        intro ro k B ρ w a hr hE hl hM hB
        refine wpIn_region (ops_ok ih ro k _ _ _ _ _ ho ρ w a hr hE ?_)
        rintro a' w' ⟨ρ', hp, hE', hd⟩
        exact ⟨rfl, ρ', hp, hE', by rw [hd]; exact hM.post hr hp⟩
      | true =>
        intro ro k B ρ w a hr hE hl hM hB
        refine draw_ok hmix ih hex ro k ρ w a hr hE ?_
        rintro rfl a' w' ⟨ρ', hp, hE', hd⟩
        exact ⟨rfl, ρ', hp, hE', by rw [hd]; exact hM.post hr hp⟩
    | rangeFunc g ps assign body =>
      simp only [exD] at hex
      split at hex
      · cases hex
      · rename_i hgo
        have hgo : operandOk g = true := by simpa using hgo
        split at hex
        · rename_i v H2 hc
          split at hex
          · rename_i r hg
            split at hex
            · cases hex
            · rename_i hnb
              split at hex
              · rename_i hpend
                simp only [Option.some.injEq, Prod.mk.injEq] at hex
                obtain ⟨rfl, rfl, rfl⟩ := hex
                exact range_ok ih hc hgo hg hnb (fun _ => ⟨rfl, rfl, rfl⟩) (fun c h => by rw [hpend] at h; cases h)
              · rename_i c hpend
                exact range_ok ih hc hgo hg hnb (fun h => by rw [hpend] at h; cases h) (fun c' h => by rw [hpend] at h; cases h; exact ih _ _ _ _ _ _ hex)
          · cases hex
        · cases hex
    | _ => simp only [exD] at hex; cases hex

/-- **What Ds reckons of a function, a call does.** -/
theorem call_ok (hmix : P.follows .mixedOrders = true) {n : Nat} {f : FuncId} {args : List Value} {v : Value} {H' : Heap} (hc : callF P (exD P n) f args H = some (v, H')) {args' : Array Value} (hr : HRel P ρ H w) (ha : All2 (V ρ) args args'.toList) :
    Calls P f args' w fun e w' => ∃ ρ' v', e = .returned v' ∧ Post P ρ H w ρ' H' w' ∧ V ρ' v v' :=
  (callF_ok (exD_ok hmix n).1 hc 0 ρ w args' hr ha).calls fun k => by intro d h; cases h
end
end Go.Ds
