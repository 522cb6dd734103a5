/-
  Ds against the model: all code.
-/
import Derived.Test.YtoanhpaipfgnfaaVA
import Derived.Test.YtoanhpaipfgnfaaProg
import Derived.KernelRfl
set_option linter.unusedVariables false
set_option linter.unusedSimpArgs false
namespace Go.Ds
section
variable {P : Program} {ρ : Rho} {H : Heap} {w : World}

theorem inBlock_mono {B : Nat} {id : Nat} {e : Ex} {l' : List Value} {H' : Heap} {e2 : Ex} (he : e2 = (match e with | .exit i => if i = id then .normal else .exit i | e => e)) {e' : Exit} {a' : Act} {w' : World}
    (h : QD P ρ H w B e l' H' e' a' w') : Exit.inBlock id (QD P ρ H w B e2 l' H') e' a' w' := by
  obtain ⟨h1, h2⟩ := h
  subst h1
  cases e with
  | normal => simp only at he; subst he; exact ⟨rfl, h2⟩
  | ret => simp only at he; subst he; exact ⟨rfl, h2⟩
  | exit i =>
    simp only [Ex.exit', Exit.inBlock] at he ⊢
    by_cases hi : i = id
    · rw [if_pos hi] at he; subst he; rw [if_pos hi]; exact ⟨rfl, h2⟩
    · rw [if_neg hi] at he; subst he; rw [if_neg hi]; exact ⟨rfl, h2⟩

theorem then_mono {B : Nat} {e : Ex} {l' : List Value} {H' : Heap} (hne : e ≠ .normal) {next : Act → World → Prop} {e' : Exit} {a' : Act} {w' : World}
    (h : QD P ρ H w B e l' H' e' a' w') : Exit.then next (QD P ρ H w B e l' H') e' a' w' := by
  have h1 := h.1
  cases e with
  | normal => exact absurd rfl hne
  | exit id => subst h1; exact h
  | ret => subst h1; exact h

theorem rho_new (h : HRel P ρ H w) (e : Nat) (p : Place) : ρ.Le (ρ.put H.length e p) := .put (rho_none h e)

/-- A range over a function. -/
theorem range_ok {ex : Run} (hex : ∀ c l H e l' H', ex c l H = some (e, l', H') → Sim P c l H e l' H') {g : Operand} {ps : Array Tmp} {assign body : Code} {l : List Value} {v : Value} {H2 : Heap}
    (hc : enterD P ex (ev l g) H.length (H.cons (.loop { state := .ready, pending := none, fn := 0, tmps := l.toArray, params := ps, assign, body, defers := 0 })) = some (v, H2)) (hgo : operandOk g = true) {r : Loop} (hg : hget H2 H.length = some (.loop r)) (hnb : r.state ≠ .busy)
    {e : Ex} {l' : List Value} {H' : Heap} (hnext0 : r.pending = none → e = .normal ∧ l' = l ∧ H' = hset H2 H.length (.loop { r with state := .exhausted }))
    (hnext1 : ∀ c, r.pending = some c → Sim P c l (hset H2 H.length (.loop { r with state := .exhausted })) e l' H') : Sim P (.rangeFunc g ps assign body) l H e l' H' := by
  intro ro k B ρ w a hr hE hl hM hB
  refine wpIn_rangeFunc ?_
  intro fn _
  -- the record, and the mark
  obtain ⟨lc, mark, w1, df, henter, hpost0, hmark, hlc, hw1⟩ : ∃ (lc : Nat) (mark : List Deferred) (w1 : World) (df : Nat),
      (Instr.enterLoop fn a.tmps ps assign body ro).run P w = .ok (lc, mark) w1 ∧
      Post P ρ H w (ρ.put H.length 0 ⟨lc, 0, 0, 0⟩) (H.cons (.loop { state := .ready, pending := none, fn := 0, tmps := l.toArray, params := ps, assign, body, defers := 0 })) w1 ∧
      Marks B w1 (mark ++ a.defers) ∧ w.heap.size ≤ lc ∧ w1.heap[lc]? = some (.loop { state := .ready, pending := none, fn := fn, tmps := a.tmps, params := ps, assign, body, defers := df }) := by
    have hloop : ∀ (ρ : Rho) (w : World), HRel P ρ H w → All2 (V ρ) l a.tmps.toList → ∀ df : Nat, Post P ρ H w (ρ.put H.length 0 ⟨w.heap.size, 0, 0, 0⟩) (H.cons (.loop { state := .ready, pending := none, fn := 0, tmps := l.toArray, params := ps, assign, body, defers := 0 }))
        (w.alloc (.loop { state := .ready, pending := none, fn := fn, tmps := a.tmps, params := ps, assign, body, defers := df })) := fun ρ w hr hE df => by
      refine Post.new hr _ _ 0 ⟨w.heap.size, 0, 0, 0⟩ rfl (fun _ _ _ _ _ e => by cases e) (fun _ _ _ e => by cases e) (fun r e => ?_)
      injection e with e
      subst e
      refine ⟨rfl, _, rfl, rfl, rfl, ?_, rfl, rfl, rfl⟩
      simpa using hE.mono fun _ _ h => h.mono (rho_new hr _ _)
    cases ro with
    | none =>
      have hp1 := Post.allocOther hr (.deferred (some []))
      have hp2 := hloop ρ (w.alloc (.deferred (some []))) hp1.rel hE w.heap.size
      rw [World.size_alloc] at hp2
      refine ⟨w.heap.size + 1, [{ target := .collected w.heap.size, args := #[] }], _, w.heap.size, run_enterLoop_outer fn a.tmps ps assign body, hp1.trans hp2, ?_, by omega, ?_⟩
      · obtain ⟨rs, h1, h2, h3⟩ := hM.post hr (hp1.trans hp2)
        refine ⟨w.heap.size :: rs, by simp [h1], List.nodup_cons.2 ⟨fun hmem => ?_, h2⟩, fun q hq => ?_⟩
        · obtain ⟨rs0, k1, k2, k3⟩ := hM
          have e : rs0 = rs := by
            have := k1.symm.trans h1
            have inj : ∀ (x y : List Nat), x.map Target.collected = y.map Target.collected → x = y := by
              intro x
              induction x with
              | nil => intro y h; cases y with | nil => rfl | cons => simp at h
              | cons a x ih => intro y h; cases y with | nil => simp at h | cons b y => simp at h; rw [h.1, ih y h.2]
            exact inj _ _ this
          subst e
          have := blk_lt (k3 _ hmem).2
          omega
        · rcases List.mem_cons.1 hq with rfl | hq
          · refine ⟨hB, ?_⟩
            rw [heap_alloc_old (by simp)]
            exact heap_alloc_new w _
          · exact h3 q hq
      · have := heap_alloc_new (w.alloc (.deferred (some []))) (.loop { state := .ready, pending := none, fn := fn, tmps := a.tmps, params := ps, assign, body, defers := w.heap.size })
        rwa [World.size_alloc] at this
    | some l0 =>
      obtain ⟨r0, hr0⟩ := hl l0 rfl
      have hp2 := hloop ρ w hr hE r0.defers
      refine ⟨w.heap.size, [], _, r0.defers, ?_, hp2, by simpa using hM.post hr hp2, Nat.le_refl _, heap_alloc_new w _⟩
      unfold Instr.enterLoop
      simp only [Sem.run_bind, run_getLoop hr0, run_newObj_alloc, Result.andThen_ok, Sem.run_pure]
  unfold enterD at hc
  split at hc
  · rename_i f first captured hev
    have hgv := ev_ok hE hgo
    rw [hev] at hgv
    obtain ⟨first', captured', hfe, hfa, hfc⟩ := hgv.fn_inv
    obtain ⟨fnc, hfn, hbody, hname⟩ := callF_fn hc
    have hLp : (ρ.put H.length 0 ⟨lc, 0, 0, 0⟩) H.length 0 = some ⟨lc, 0, 0, 0⟩ := Rho.put_same _ _ _ _
    refine ⟨lc, mark, w1, { target := .fn (.func f) captured', args := first' ++ #[Value.func (.yield lc) #[] #[]] }, w1, f, first' ++ #[Value.func (.yield lc) #[] #[]] ++ captured', w1, henter, ?_, fun _ _ => trivial, ?_, fe_depth ro, ?_⟩
    · simp only [resolve, hfe, Deferred.ofValue, Sem.run_pure]
      simp [Act.eval]
    · simp only [invoke]
      exact run_callFunc hfn hbody hname _ w1
    · have hargs : All2 (V (ρ.put H.length 0 ⟨lc, 0, 0, 0⟩)) (first.toList ++ [Value.func (.yield H.length) #[] #[]] ++ captured.toList) (first' ++ #[Value.func (.yield lc) #[] #[]] ++ captured').toList := by
        simp only [Array.toList_append]
        exact ((((hfa.mono fun _ _ h => h.mono hpost0.le).v_of_c0).append (show All2 (V _) [Value.func (.yield H.length) #[] #[]] [Value.func (.yield lc) #[] #[]] from ⟨.v1 (.c1 (C1.yld hLp)), trivial⟩)).append (hfc.mono fun _ _ h => h.mono hpost0.le).v_of_c0)
      have hcall := callF_ok hex hc (k - 1) _ w1 _ hpost0.rel hargs
      have hci : CallsIn (fe ro) (k - 1) P f (first' ++ #[Value.func (.yield lc) #[] #[]] ++ captured') w1 fun e w' => ∃ ρ' v', e = .returned v' ∧ Post P (ρ.put H.length 0 ⟨lc, 0, 0, 0⟩) _ w1 ρ' H2 w' ∧ V ρ' v v' := hcall
      refine hci.mono ?_
      rintro e2 w2 ⟨ρ2, v2, rfl, hp2, _⟩
      obtain ⟨r', hw2, hrel⟩ := loop_at hp2.rel hg (hp2.le _ _ _ hLp)
      have hp3 := Post.putLoop (r := { r with state := .exhausted }) (r' := { r' with state := .exhausted }) hp2.rel hg (hp2.le _ _ _ hLp) hw2 ⟨rfl, hrel.pending, hrel.tmps, hrel.params, hrel.assign, hrel.body⟩
      have hend := run_endLoop (P := P) hw2 (by rw [hrel.state]; exact hnb)
      revert hp3 hend
      generalize w2.putObj lc (.loop { r' with state := .exhausted }) = w3
      intro hp3 hend
      have hall := hpost0.trans (hp2.trans hp3)
      have hM3 : Marks B _ (mark ++ a.defers) := hmark.post hpost0.rel (hp2.trans hp3)
      have hE3 := hE.mono fun _ _ h => h.mono hall.le
      refine ⟨r'.pending, w3, hend, ?_⟩
      rw [hrel.pending]
      cases hpend : r.pending with
      | none =>
        obtain ⟨rfl, rfl, rfl⟩ := hnext0 hpend
        exact ⟨rfl, ρ2, hall, hE3, hM3⟩
      | some c =>
        refine wpIn_mono (hnext1 c hpend ro k B ρ2 _ { a with defers := mark ++ a.defers } hp3.rel hE3 (hl.post hall) hM3 (Nat.le_trans hB hall.size)) ?_
        intro e5 a5 w5 hq
        exact hq.trans hall
  · cases hc

/-- **Ds IS SOUND.** -/
theorem exD_ok (hmix : P.follows .mixedOrders = true) : ∀ (n : Nat),
    (∀ (c : Code) (l : List Value) (H : Heap) (e : Ex) (l' : List Value) (H' : Heap), exD P n c l H = some (e, l', H') → Sim P c l H e l' H') ∧
    (∀ (c : Code) (l : List Value) (H : Heap) (e : Ex) (l' : List Value) (H' : Heap), exD P n (.loop c) l H = some (e, l', H') →
      ∀ (ro : Option Nat) (k B : Nat) (ρ : Rho) (w : World) (a : Act), HRel P ρ H w → All2 (V ρ) l a.tmps.toList → LoopAt ro w → Marks B w a.defers → B ≤ w.heap.size → Code.roundsIn (fe ro) k P c (QD P ρ H w B e l' H') n a w) := by
  intro n
  induction n with
  | zero =>
    constructor
    · intro c l H e l' H' h; simp only [exD] at h; cases h
    · intro c l H e l' H' h; simp only [exD] at h; cases h
  | succ n ihn =>
    obtain ⟨ih, ihl⟩ := ihn
    have hloop : ∀ (c : Code) (l : List Value) (H : Heap) (e : Ex) (l' : List Value) (H' : Heap), exD P (n + 1) (.loop c) l H = some (e, l', H') →
      ∀ (ro : Option Nat) (k B : Nat) (ρ : Rho) (w : World) (a : Act), HRel P ρ H w → All2 (V ρ) l a.tmps.toList → LoopAt ro w → Marks B w a.defers → B ≤ w.heap.size → Code.roundsIn (fe ro) k P c (QD P ρ H w B e l' H') (n + 1) a w := by
      intro c l H e l' H' hex ro k B ρ w a hr hE hl hM hB
      rw [roundsIn_succ]
      simp only [exD] at hex
      split at hex
      · rename_i l1 H1 h1
        refine wpIn_mono (ih _ _ _ _ _ _ h1 ro k B ρ w a hr hE hl hM hB) ?_
        rintro e' a' w' ⟨he, ρ', hp, hE', hM'⟩
        subst he
        have := ihl _ _ _ _ _ _ hex ro k B ρ' w' a' hp.rel hE' (hl.post hp) hM' (Nat.le_trans hB hp.size)
        have mono : ∀ (m : Nat) (a : Act) (w2 : World), Code.roundsIn (fe ro) k P c (QD P ρ' H1 w' B e l' H') m a w2 → Code.roundsIn (fe ro) k P c (QD P ρ H w B e l' H') m a w2 := by
          intro m
          induction m with
          | zero => intro a w2 h; exact h
          | succ m ihm =>
            intro a w2 h
            rw [roundsIn_succ] at h ⊢
            refine wpIn_mono h ?_
            intro e3 a3 w3 hq
            cases e3 <;> first | exact ihm _ _ hq | exact hq.trans hp
        exact mono _ _ _ this
      · rename_i hne
        have hen : e ≠ .normal := fun he => by subst he; exact hne _ _ hex
        exact wpIn_mono (ih _ _ _ _ _ _ hex ro k B ρ w a hr hE hl hM hB) fun e' a' w' hq => then_mono hen hq
    refine ⟨?_, hloop⟩
    intro c l H e l' H' hex
    cases c with
    | skip =>
      simp only [exD, Option.some.injEq, Prod.mk.injEq] at hex
      obtain ⟨rfl, rfl, rfl⟩ := hex
      intro ro k B ρ w a hr hE hl hM hB
      exact wpIn_skip ⟨rfl, ρ, .refl hr, hE, hM⟩
    | label t =>
      simp only [exD, Option.some.injEq, Prod.mk.injEq] at hex
      obtain ⟨rfl, rfl, rfl⟩ := hex
      intro ro k B ρ w a hr hE hl hM hB
      exact wpIn_label ⟨rfl, ρ, .refl hr, hE, hM⟩
    | exit id =>
      simp only [exD, Option.some.injEq, Prod.mk.injEq] at hex
      obtain ⟨rfl, rfl, rfl⟩ := hex
      intro ro k B ρ w a hr hE hl hM hB
      exact wpIn_exit ⟨rfl, ρ, .refl hr, hE, hM⟩
    | ret =>
      simp only [exD, Option.some.injEq, Prod.mk.injEq] at hex
      obtain ⟨rfl, rfl, rfl⟩ := hex
      intro ro k B ρ w a hr hE hl hM hB
      exact wpIn_ret ⟨rfl, ρ, .refl hr, hE, hM⟩
    | seq x y =>
      simp only [exD] at hex
      intro ro k B ρ w a hr hE hl hM hB
      refine wpIn_seq ?_
      split at hex
      · rename_i l1 H1 h1
        exact QD.then_ (ih _ _ _ _ _ _ h1) (ih _ _ _ _ _ _ hex) hr hE hl hM hB (l := l)
      · rename_i hne
        have hen : e ≠ .normal := fun he => by subst he; exact hne _ _ hex
        exact wpIn_mono (ih _ _ _ _ _ _ hex ro k B ρ w a hr hE hl hM hB) fun e' a' w' hq => then_mono hen hq
    | cond c x y =>
      simp only [exD] at hex
      intro ro k B ρ w a hr hE hl hM hB
      split at hex
      · rename_i t hc
        split at hex
        · rename_i hco
          have hv := ev_ok hE hco
          rw [hc] at hv
          exact wpIn_cond hv.bool_inv (ih _ _ _ _ _ _ hex ro k B ρ w a hr hE hl hM hB)
        · cases hex
      · cases hex
    | block id b =>
      simp only [exD] at hex
      intro ro k B ρ w a hr hE hl hM hB
      refine wpIn_block ?_
      split at hex
      · rename_i i l1 H1 h1
        refine wpIn_mono (ih _ _ _ _ _ _ h1 ro k B ρ w a hr hE hl hM hB) fun e' a' w' hq => ?_
        by_cases hi : i = id
        · rw [if_pos hi] at hex
          simp only [Option.some.injEq, Prod.mk.injEq] at hex
          obtain ⟨rfl, rfl, rfl⟩ := hex
          exact inBlock_mono (by simp [hi]) hq
        · rw [if_neg hi] at hex
          simp only [Option.some.injEq, Prod.mk.injEq] at hex
          obtain ⟨rfl, rfl, rfl⟩ := hex
          exact inBlock_mono (by simp [hi]) hq
      · rename_i hne
        refine wpIn_mono (ih _ _ _ _ _ _ hex ro k B ρ w a hr hE hl hM hB) fun e' a' w' hq => ?_
        refine inBlock_mono ?_ hq
        cases e with
        | normal => rfl
        | ret => rfl
        | exit i => exact absurd hex (hne i _ _)
    | loop b =>
      intro ro k B ρ w a hr hE hl hM hB
      exact wpIn_loop_rounds (n + 1) (hloop _ _ _ _ _ _ hex ro k B ρ w a hr hE hl hM hB)
    | region id ops d =>
      cases d with
      | false =>
        simp only [exD, Option.map_eq_some_iff] at hex
        obtain ⟨⟨l1, H1⟩, ho, hq⟩ := hex
        simp only [Prod.mk.injEq] at hq
        obtain ⟨rfl, rfl, rfl⟩ := hq
        intro ro k B ρ w a hr hE hl hM hB
        refine wpIn_region (ops_ok ih ro k _ _ _ _ _ ho ρ w a hr hE ?_)
        rintro a' w' ⟨ρ', hp, hE', hd⟩
        exact ⟨rfl, ρ', hp, hE', by rw [hd]; exact hM.post hr hp⟩
      | true =>
        intro ro k B ρ w a hr hE hl hM hB
        refine draw_ok hmix ih hex ro k ρ w a hr hE ?_
        rintro rfl a' w' ⟨ρ', hp, hE', hd⟩
        exact ⟨rfl, ρ', hp, hE', by rw [hd]; exact hM.post hr hp⟩
    | rangeFunc g ps assign body =>
      simp only [exD] at hex
      split at hex
      · cases hex
      · rename_i hgo
        have hgo : operandOk g = true := by simpa using hgo
        split at hex
        · rename_i v H2 hc
          split at hex
          · rename_i r hg
            split at hex
            · cases hex
            · rename_i hnb
              split at hex
              · rename_i hpend
                simp only [Option.some.injEq, Prod.mk.injEq] at hex
                obtain ⟨rfl, rfl, rfl⟩ := hex
                exact range_ok ih hc hgo hg hnb (fun _ => ⟨rfl, rfl, rfl⟩) (fun c h => by rw [hpend] at h; cases h)
              · rename_i c hpend
                exact range_ok ih hc hgo hg hnb (fun h => by rw [hpend] at h; cases h) (fun c' h => by rw [hpend] at h; cases h; exact ih _ _ _ _ _ _ hex)
          · cases hex
        · cases hex
    | _ => simp only [exD] at hex; cases hex

/-- **What Ds reckons of a function, a call does.** -/
theorem call_ok (hmix : P.follows .mixedOrders = true) {n : Nat} {f : FuncId} {args : List Value} {v : Value} {H' : Heap} (hc : callF P (exD P n) f args H = some (v, H')) {args' : Array Value} (hr : HRel P ρ H w) (ha : All2 (V ρ) args args'.toList) :
    Calls P f args' w fun e w' => ∃ ρ' v', e = .returned v' ∧ Post P ρ H w ρ' H' w' ∧ V ρ' v v' :=
  (callF_ok (exD_ok hmix n).1 hc 0 ρ w args' hr ha).calls fun k => by intro d h; cases h
end
end Go.Ds
/-
  Ds: rules to reason with.
-/
namespace Go.Ds
section
variable {P : Program} {ρ : Rho} {H : Heap} {w : World}

/-! ### Sim, rule by rule -/
theorem Sim.skip (l : List Value) (H : Heap) : Sim P .skip l H .normal l H := fun ro k B ρ w a hr hE hl hM hB => wpIn_skip ⟨rfl, ρ, .refl hr, hE, hM⟩
theorem Sim.label (t : Nat) (l : List Value) (H : Heap) : Sim P (.label t) l H .normal l H := fun ro k B ρ w a hr hE hl hM hB => wpIn_label ⟨rfl, ρ, .refl hr, hE, hM⟩
theorem Sim.exit (id : Nat) (l : List Value) (H : Heap) : Sim P (.exit id) l H (.exit id) l H := fun ro k B ρ w a hr hE hl hM hB => wpIn_exit ⟨rfl, ρ, .refl hr, hE, hM⟩
theorem Sim.ret (l : List Value) (H : Heap) : Sim P .ret l H .ret l H := fun ro k B ρ w a hr hE hl hM hB => wpIn_ret ⟨rfl, ρ, .refl hr, hE, hM⟩

theorem Sim.seq {a b : Code} {l : List Value} {H : Heap} {l1 : List Value} {H1 : Heap} {e : Ex} {l2 : List Value} {H2 : Heap} (h1 : Sim P a l H .normal l1 H1) (h2 : Sim P b l1 H1 e l2 H2) : Sim P (.seq a b) l H e l2 H2 :=
  fun ro k B ρ w a hr hE hl hM hB => wpIn_seq (QD.then_ h1 h2 hr hE hl hM hB)

theorem Sim.seq' {a b : Code} {l : List Value} {H : Heap} {e : Ex} {l2 : List Value} {H2 : Heap} (h1 : Sim P a l H e l2 H2) (hne : e ≠ .normal) : Sim P (.seq a b) l H e l2 H2 :=
  fun ro k B ρ w a hr hE hl hM hB => wpIn_seq (wpIn_mono (h1 ro k B ρ w a hr hE hl hM hB) fun e' a' w' hq => then_mono hne hq)

theorem Sim.cond {c : Operand} {t : Bool} {x y : Code} {l : List Value} {H : Heap} {e : Ex} {l2 : List Value} {H2 : Heap} (hc : ev l c = .bool t) (hok : operandOk c = true) (h : Sim P (if t then x else y) l H e l2 H2) : Sim P (.cond c x y) l H e l2 H2 :=
  fun ro k B ρ w a hr hE hl hM hB => by
    have hv := ev_ok hE hok
    rw [hc] at hv
    exact wpIn_cond hv.bool_inv (h ro k B ρ w a hr hE hl hM hB)

/-- How a block's code ends the block. -/
def Ex.out (id : Nat) : Ex → Ex
  | .exit i => if i = id then .normal else .exit i
  | e => e

theorem Sim.block {id : Nat} {b : Code} {l : List Value} {H : Heap} {e : Ex} {l2 : List Value} {H2 : Heap} (h : Sim P b l H e l2 H2) : Sim P (.block id b) l H (e.out id) l2 H2 :=
  fun ro k B ρ w a hr hE hl hM hB => wpIn_block (wpIn_mono (h ro k B ρ w a hr hE hl hM hB) fun e' a' w' hq => inBlock_mono (by cases e <;> rfl) hq)

theorem roundsIn_mono {F : Fence} {k : Nat} {c : Code} {Q Q' : Exit → Act → World → Prop} (h : ∀ e a w, Q e a w → Q' e a w) : ∀ (m : Nat) (a : Act) (w : World), Code.roundsIn F k P c Q m a w → Code.roundsIn F k P c Q' m a w
  | 0, _, _, hh => hh
  | m + 1, a, w, hh => by
    rw [roundsIn_succ] at hh ⊢
    refine wpIn_mono hh ?_
    intro e3 a3 w3 hq
    cases e3 <;> first | exact roundsIn_mono h m _ _ hq | exact h _ _ _ hq

/-- A loop's rounds. -/
inductive Rounds (P : Program) (c : Code) : Nat → List Value → Heap → Ex → List Value → Heap → Prop where
  | last {l : List Value} {H : Heap} {e : Ex} {l' : List Value} {H' : Heap} (h : Sim P c l H e l' H') (hne : e ≠ .normal) : Rounds P c 1 l H e l' H'
  | more {n : Nat} {l : List Value} {H : Heap} {l1 : List Value} {H1 : Heap} {e : Ex} {l' : List Value} {H' : Heap} (h : Sim P c l H .normal l1 H1) (hh : Rounds P c n l1 H1 e l' H') : Rounds P c (n + 1) l H e l' H'

theorem Rounds.sound {c : Code} {n : Nat} {l : List Value} {H : Heap} {e : Ex} {l' : List Value} {H' : Heap} (h : Rounds P c n l H e l' H') :
    ∀ (ro : Option Nat) (k B : Nat) (ρ : Rho) (w : World) (a : Act), HRel P ρ H w → All2 (V ρ) l a.tmps.toList → LoopAt ro w → Marks B w a.defers → B ≤ w.heap.size → Code.roundsIn (fe ro) k P c (QD P ρ H w B e l' H') n a w := by
  induction h with
  | last h hne =>
    intro ro k B ρ w a hr hE hl hM hB
    rw [roundsIn_succ]
    exact wpIn_mono (h ro k B ρ w a hr hE hl hM hB) fun e' a' w' hq => then_mono hne hq
  | more h hh ih =>
    intro ro k B ρ w a hr hE hl hM hB
    rw [roundsIn_succ]
    refine wpIn_mono (h ro k B ρ w a hr hE hl hM hB) ?_
    rintro e' a' w' ⟨he, ρ', hp, hE', hM'⟩
    subst he
    exact roundsIn_mono (fun _ _ _ hq => hq.trans hp) _ _ _ (ih ro k B ρ' w' a' hp.rel hE' (hl.post hp) hM' (Nat.le_trans hB hp.size))

theorem Sim.loop {c : Code} {n : Nat} {l : List Value} {H : Heap} {e : Ex} {l' : List Value} {H' : Heap} (h : Rounds P c n l H e l' H') : Sim P (.loop c) l H e l' H' :=
  fun ro k B ρ w a hr hE hl hM hB => wpIn_loop_rounds n (h.sound ro k B ρ w a hr hE hl hM hB)

theorem Sim.region {id : Nat} {ops : Array Oper} {l : List Value} {H : Heap} {l' : List Value} {H' : Heap} (h : OpsR P ops (List.range ops.size) l H l' H') : Sim P (.region id ops false) l H .normal l' H' :=
  fun ro k B ρ w a hr hE hl hM hB => wpIn_region (h.sound ro k ρ w a hr hE (by
    rintro a' w' ⟨ρ', hp, hE', hd⟩
    exact ⟨rfl, ρ', hp, hE', by rw [hd]; exact hM.post hr hp⟩))

theorem Sim.draw (hmix : P.follows .mixedOrders = true) {id : Nat} {ops : Array Oper} {tab : List (Nat × Nat)} (htab : drawTab ops = some tab) {T : Nat → List Value × Heap} {val : Nat → Value} (X : Text P ops T val)
    (hread : ∀ i m o, (i, m) ∈ tab → ops[i]? = some o → Region.wanted o (yieldedD ops (T i).1) = true → ∃ H2, opD P o (T i).1 (T m).2 = some (val i, H2)) :
    Sim P (.region id ops true) (T 0).1 (T 0).2 .normal (T ops.size).1 (T ops.size).2 := by
  intro ro k B ρ w a hr hE hl hM hB
  unfold drawTab at htab
  split at htab
  case isFalse => cases htab
  rename_i hord
  obtain rfl := Option.some.inj htab
  have D := draw_of hord
  refine wpIn_region_any hmix ?_
  have hdrew : Post P ρ (T 0).2 w ρ (T 0).2 { w with drawn := w.drawn + 1 } := Post.drew hr
  refine any_ok (ρ0 := ρ) (W0 := w) (ds := a.defers) X D hread ro k ?_ ops.size _ (List.range ops.size) (by simp) (fun i hi _ => List.mem_range.2 hi) (by simp) (fun _ => 0) 0 ρ a _ ?_ (.inl rfl)
  · intro ρ' a' w' h1 h2 h3
    exact ⟨rfl, ρ', h1, h2, by rw [h3]; exact hM.post hr h1⟩
  · have hfalse : ∀ j, ¬ (Array.replicate ops.size false).getD j false = true := fun j => by
      rw [Array.getD_eq_getD_getElem?, Array.getElem?_replicate]
      split <;> simp
    exact ⟨Nat.zero_le _, hdrew, fun j _ hj => absurd hj (hfalse j), fun i o ho hm => ⟨fun h => absurd h (hfalse i), fun h => absurd h (Nat.not_lt_zero _)⟩, fun i o ho ha hi => absurd hi (Nat.not_lt_zero _), fun i o t ho ha hi hS => absurd hS (hfalse i),
      fun i j x y hx hy h1 h2 h3 h4 h5 => absurd h5 (hfalse i), by simpa using hE.length.symm, fun t _ => get_ok hE t, fun i o t hS => absurd hS (hfalse i), rfl⟩

/-- A function, out of its body. -/
theorem CallOk.of_sim {f : FuncId} {fn : Func} {c : Code} {args : List Value} {e : Ex} {l1 : List Value} {H1 : Heap} {v : Value} (hf : P.funcs[f]? = some fn) (hb : fn.body = some c) (hn : (fn.name == "runtime.NumGoroutine") = false)
    (hs : Sim P c (args ++ List.replicate (fn.ntmps - args.length) undef) H e l1 H1) (he : e = .normal ∨ e = .ret) (hres : resultsD P fn l1 H1 = some v) : CallOk P f args H v H1 := by
  classical
  let ex : Run := fun c' l' H' => if c' = c ∧ l' = args ++ List.replicate (fn.ntmps - args.length) undef ∧ H' = H then some (e, l1, H1) else none
  have hex : ∀ c l H e l' H', ex c l H = some (e, l', H') → Sim P c l H e l' H' := by
    intro c' l' H' e' l2 H2 h
    simp only [ex] at h
    split at h
    · rename_i hh
      obtain ⟨rfl, rfl, rfl⟩ := hh
      injection h with h
      injection h with h1 h
      injection h with h2 h3
      subst h1 h2 h3
      exact hs
    · cases h
  refine callF_ok hex ?_
  unfold callF
  have h1 : ex c (args ++ List.replicate (fn.ntmps - args.length) undef) H = some (e, l1, H1) := by simp [ex]
  rw [hf]
  simp only [hb, hn, Bool.false_eq_true, if_false, h1]
  rcases he with rfl | rfl <;> simp [hres]

theorem CallOk.of_run (hmix : P.follows .mixedOrders = true) {n : Nat} {f : FuncId} {args : List Value} {v : Value} {H' : Heap} (hc : callF P (exD P n) f args H = some (v, H')) : CallOk P f args H v H' := callF_ok (exD_ok hmix n).1 hc

/-- The heap of the model, with nothing of ours. -/
theorem HRel.empty (w : World) : HRel P (fun _ _ => none) .nil w where
  dom _ _ _ h := by cases h
  cells _ _ _ _ _ _ h := by rw [hget_none (Nat.zero_le _)] at h; cases h
  map _ _ _ _ h := by rw [hget_none (Nat.zero_le _)] at h; cases h
  loop _ _ h := by rw [hget_none (Nat.zero_le _)] at h; cases h
  one _ _ _ _ h := by cases h
  excl _ _ _ _ _ _ _ h := by cases h
  full _ h := absurd h (Nat.not_lt_zero _)

/-- **A closed call that gives a plain value may be made at any heap, and leaves it.** -/
theorem CallOk.closed {f : FuncId} {v : Value} (hv : flat v = true) {H1 : Heap} (h : CallOk P f [] .nil v H1) (H : Heap) : CallOk P f [] H v H := by
  intro k ρ w args' hr ha
  have ha' : All2 (V (fun _ _ => none)) [] args'.toList := by
    cases hh : args'.toList with
    | nil => trivial
    | cons x xs => rw [hh] at ha; exact ha.elim
  refine (h k (fun _ _ => none) w args' (.empty w) ha').mono ?_
  rintro e w' ⟨ρ', v', rfl, hp, hv'⟩
  have hframe : ∀ b, b < w.heap.size → w'.heap[b]? = w.heap[b]? := fun b hb => (hp.frame b hb (by rintro ⟨A, e, p, blk, hq, _⟩; cases hq)).1
  refine ⟨ρ, v', rfl, ?_, ?_⟩
  · exact {
      le := .refl ρ
      rel := hr.other hp.size fun A e p hq => hframe _ (hr.dom _ _ _ hq).2
      len := Nat.le_refl _
      size := hp.size
      os := hp.os
      tape := hp.tape
      output := hp.output
      frame := fun b hb hw => ⟨hframe b hb, hw⟩
      loops := fun b r h => ⟨r, by rw [hframe b (blk_lt h), h]⟩
      img := fun _ _ h => h }
  · rw [hv'.eq_of_flat hv]
    exact .of_flat hv
end
end Go.Ds
/-
  Ds: a calculus that goes from the end to the beginning.
-/
namespace Go.Ds
section
variable {P : Program} {ρ : Rho} {H : Heap} {w : World}

abbrev Out := Ex → List Value → Heap → Prop

/-- A mark: what it stands beside is left as it is by a simplifier. -/
structure Keep {α : Sort _} (a : α) : Type where

def bindW (r : Option (Value × Heap)) (K : Value → Heap → Prop) (_k : Keep K := ⟨⟩) : Prop :=
  match r with
  | some (v, H1) => K v H1
  | none => False

@[simp] theorem bindW_some (v : Value) (H1 : Heap) (K : Value → Heap → Prop) : bindW (some (v, H1)) K = K v H1 := rfl

/-- What a call of a function value needs. -/
def callW (P : Program) (f : Value) (args : List Value) (H : Heap) (K : Value → Heap → Prop) (_k : Keep K := ⟨⟩) : Prop :=
  match f with
  | .func (.func k) first captured => ∃ v H1, Entered P k ∧ CallOk P k (first.toList ++ args ++ captured.toList) H v H1 ∧ K v H1
  | .func (.yield L) _ _ => ∃ v H1, RoundOk P L args H v H1 ∧ K v H1
  | _ => False

def opW (P : Program) (o : Oper) (l : List Value) (H : Heap) (K : Value → Heap → Prop) : Prop :=
  o.op.operands.toList.all operandOk = true ∧
  match o.op with
  | .move x => K (ev l x) H
  | .assign x => K (ev l x) H
  | .call c => match c.callee with
    | .value f => callW P (ev l f) (c.args.toList.map (ev l)) H K
    | _ => bindW (opD P o l H) K
  | _ => bindW (opD P o l H) K

theorem opW_sound {o : Oper} {l : List Value} {K : Value → Heap → Prop} (h : opW P o l H K) : ∃ v H1, StepR P o l H v H1 ∧ K v H1 := by
  obtain ⟨dst, op, type, pos, after, guard⟩ := o
  obtain ⟨hok, h⟩ := h
  have plain : bindW (opD P ⟨dst, op, type, pos, after, guard⟩ l H) K → ∃ v H1, StepR P ⟨dst, op, type, pos, after, guard⟩ l H v H1 ∧ K v H1 := fun h => by
    unfold bindW at h
    split at h
    · rename_i v H1 h1
      exact ⟨v, H1, .op hok h1, h⟩
    · exact h.elim
  simp only at h
  split at h
  · exact ⟨_, _, .op hok rfl, h⟩
  · exact ⟨_, _, .op hok rfl, h⟩
  · rename_i c
    split at h
    · rename_i f hf
      unfold callW at h
      split at h
      · rename_i k first captured hev
        obtain ⟨v, H1, h1, h2, h3⟩ := h
        exact ⟨v, H1, .call hok c f k first captured rfl hf hev h1 h2, h3⟩
      · rename_i L b d hev
        obtain ⟨v, H1, h1, h2⟩ := h
        exact ⟨v, H1, .round hok c f L b d rfl hf hev h1, h2⟩
      · exact h.elim
    · exact plain h
  · exact plain h

/-- Operations in text order; what they give is kept in the list of states. -/
def opsW (P : Program) (ops : Array Oper) : List Oper → List Value → Heap → (List Value → Heap → Prop) → Prop
  | [], l, H, K => K l H
  | o :: os, l, H, K => if Region.wanted o (yieldedD ops l) = true then opW P o l H fun v H1 => opsW P ops os (put l o.dst v) H1 K else opsW P ops os (put l o.dst undef) H K

theorem opsW_sound {ops : Array Oper} {K : List Value → Heap → Prop} : ∀ (os : List Oper) (i : Nat), ops.toList.drop i = os → ∀ (l : List Value) (H : Heap), opsW P ops os l H K →
    ∃ l' H', OpsR P ops (List.range' i os.length) l H l' H' ∧ K l' H'
  | [], i, _, l, H, h => ⟨l, H, .nil l H, h⟩
  | o :: os, i, hd, l, H, h => by
    have ho : ops[i]? = some o := by
      have : (ops.toList.drop i)[0]? = some o := by rw [hd]; rfl
      rw [List.getElem?_drop] at this
      simpa using this
    have hd' : ops.toList.drop (i + 1) = os := by
      rw [← List.drop_drop, hd]; rfl
    unfold opsW at h
    rw [List.length_cons, List.range'_succ]
    split at h
    · rename_i hw
      obtain ⟨v, H1, h1, h2⟩ := opW_sound h
      obtain ⟨l', H', h3, h4⟩ := opsW_sound os (i + 1) hd' _ _ h2
      exact ⟨l', H', .step ho hw h1 h3, h4⟩
    · rename_i hw
      obtain ⟨l', H', h3, h4⟩ := opsW_sound os (i + 1) hd' _ _ h
      exact ⟨l', H', .past ho (by simpa using hw) h3, h4⟩

theorem opsR_of_W {ops : Array Oper} {l : List Value} {K : List Value → Heap → Prop} (h : opsW P ops ops.toList l H K) : ∃ l' H', OpsR P ops (List.range ops.size) l H l' H' ∧ K l' H' := by
  obtain ⟨l', H', h1, h2⟩ := opsW_sound ops.toList 0 rfl l H h
  refine ⟨l', H', ?_, h2⟩
  rw [List.range_eq_range']
  simpa using h1

/-- The states of a run, out of its steps. -/
theorem text_of {ops : Array Oper} : ∀ (is : List Nat) (l : List Value) (H : Heap) (l' : List Value) (H' : Heap), OpsR P ops is l H l' H' →
    ∃ (T : Nat → List Value × Heap) (val : Nat → Value), T 0 = (l, H) ∧ T is.length = (l', H') ∧ ∀ k i, is[k]? = some i → StepT P ops i (T k) (T (k + 1)) (val k) := by
  intro is l H l' H' h
  have key : ∀ {i : Nat} {is : List Nat} {l : List Value} {H : Heap} {l1 : List Value} {H1 : Heap} {v : Value} {l' : List Value} {H' : Heap}, StepT P ops i (l, H) (l1, H1) v →
      (∃ (T : Nat → List Value × Heap) (val : Nat → Value), T 0 = (l1, H1) ∧ T is.length = (l', H') ∧ ∀ k i, is[k]? = some i → StepT P ops i (T k) (T (k + 1)) (val k)) →
      ∃ (T : Nat → List Value × Heap) (val : Nat → Value), T 0 = (l, H) ∧ T (i :: is).length = (l', H') ∧ ∀ k j, (i :: is)[k]? = some j → StepT P ops j (T k) (T (k + 1)) (val k) := by
    intro i is l H l1 H1 v l' H' hst ⟨T, val, h0, h1, h4⟩
    refine ⟨fun k => match k with | 0 => (l, H) | k + 1 => T k, fun k => match k with | 0 => v | k + 1 => val k, rfl, h1, ?_⟩
    intro k j hj
    cases k with
    | zero =>
      simp at hj
      subst hj
      simp only [h0]
      exact hst
    | succ k => exact h4 k j (by simpa using hj)
  induction h with
  | nil l H => exact ⟨fun _ => (l, H), fun _ => undef, rfl, rfl, by simp⟩
  | step ho hw hs rest ih => exact key ⟨_, ho, rfl, .inl ⟨hw, hs⟩⟩ ih
  | past ho hw rest ih => exact key ⟨_, ho, rfl, .inr ⟨hw, rfl, rfl⟩⟩ ih

/-- A region that draws, none of whose reads floats. -/
theorem Sim.draw0 (hmix : P.follows .mixedOrders = true) {id : Nat} {ops : Array Oper} (htab : drawTab ops = some []) {l : List Value} {H : Heap} {l' : List Value} {H' : Heap} (h : OpsR P ops (List.range ops.size) l H l' H') :
    Sim P (.region id ops true) l H .normal l' H' := by
  obtain ⟨T, val, h0, h1, h2⟩ := text_of _ _ _ _ _ h
  rw [List.length_range] at h1
  have := Sim.draw hmix (id := id) htab (T := T) (val := val) ⟨fun k hk => h2 k k (by rw [List.getElem?_range hk])⟩ fun i m o hm => by cases hm
  rw [h0, h1] at this
  exact this

/-! ### Code -/
def Wp (P : Program) (c : Code) (l : List Value) (H : Heap) (Q : Out) (_k1 : Keep c := ⟨⟩) (_k2 : Keep Q := ⟨⟩) : Prop := ∃ e l' H', Sim P c l H e l' H' ∧ Q e l' H'

theorem Wp.mono {c : Code} {l : List Value} {Q Q' : Out} (h : Wp P c l H Q) (hh : ∀ e l H, Q e l H → Q' e l H) : Wp P c l H Q' := by
  obtain ⟨e, l', H', h1, h2⟩ := h
  exact ⟨e, l', H', h1, hh _ _ _ h2⟩

def seqQ (P : Program) (b : Code) (Q : Out) : Out
  | .normal, l, H => Wp P b l H Q
  | e, l, H => Q e l H

def blockQ (id : Nat) (Q : Out) : Out := fun e l H => Q (e.out id) l H

theorem Wp.skip {l : List Value} {Q : Out} (h : Q .normal l H) : Wp P .skip l H Q := ⟨_, _, _, .skip l H, h⟩
theorem Wp.label {t : Nat} {l : List Value} {Q : Out} (h : Q .normal l H) : Wp P (.label t) l H Q := ⟨_, _, _, .label t l H, h⟩
theorem Wp.exit {id : Nat} {l : List Value} {Q : Out} (h : Q (.exit id) l H) : Wp P (.exit id) l H Q := ⟨_, _, _, .exit id l H, h⟩
theorem Wp.ret {l : List Value} {Q : Out} (h : Q .ret l H) : Wp P .ret l H Q := ⟨_, _, _, .ret l H, h⟩

theorem Wp.seq {a b : Code} {l : List Value} {Q : Out} (h : Wp P a l H (seqQ P b Q)) : Wp P (.seq a b) l H Q := by
  obtain ⟨e, l1, H1, h1, h2⟩ := h
  cases e with
  | normal =>
    obtain ⟨e, l2, H2, h3, h4⟩ := h2
    exact ⟨e, l2, H2, .seq h1 h3, h4⟩
  | exit i => exact ⟨_, _, _, .seq' h1 (by simp), h2⟩
  | ret => exact ⟨_, _, _, .seq' h1 (by simp), h2⟩

theorem Wp.cond {c : Operand} {x y : Code} {l : List Value} {Q : Out} (t : Bool) (hc : ev l c = .bool t) (hok : operandOk c = true) (h : Wp P (if t then x else y) l H Q) : Wp P (.cond c x y) l H Q := by
  obtain ⟨e, l2, H2, h3, h4⟩ := h
  exact ⟨e, l2, H2, .cond hc hok h3, h4⟩

/-- Either way of a condition. -/
theorem Wp.ite {c : Operand} {x y : Code} {l : List Value} {Q : Out} (p : Prop) [Decidable p] (hc : ev l c = .bool (decide p)) (hok : operandOk c = true) (hx : p → Wp P x l H Q) (hy : ¬ p → Wp P y l H Q) : Wp P (.cond c x y) l H Q := by
  refine Wp.cond (decide p) hc hok ?_
  by_cases h : p
  · have e : (if decide p = true then x else y) = x := by simp [h]
    rw [e]; exact hx h
  · have e : (if decide p = true then x else y) = y := by simp [h]
    rw [e]; exact hy h

theorem Wp.block {id : Nat} {b : Code} {l : List Value} {Q : Out} (h : Wp P b l H (blockQ id Q)) : Wp P (.block id b) l H Q := by
  obtain ⟨e, l2, H2, h3, h4⟩ := h
  exact ⟨_, l2, H2, .block h3, h4⟩

/-- A loop, by an invariant and a number that falls. -/
theorem Wp.loop {c : Code} {Q : Out} (I : Nat → List Value → Heap → Prop) (step : ∀ n l H, I n l H → Wp P c l H fun e l1 H1 => match e with | .normal => ∃ m, m < n ∧ I m l1 H1 | e => Q e l1 H1) {l : List Value} (n : Nat) (h : I n l H) : Wp P (.loop c) l H Q := by
  have key : ∀ (n : Nat) (l : List Value) (H : Heap), I n l H → ∃ k e l' H', Rounds P c k l H e l' H' ∧ Q e l' H' := by
    intro n
    induction n using Nat.strongRecOn with
    | _ n ih =>
      intro l H h
      obtain ⟨e, l1, H1, h1, h2⟩ := step n l H h
      cases e with
      | normal =>
        obtain ⟨m, hm, h3⟩ := h2
        obtain ⟨k, e, l', H', h4, h5⟩ := ih m hm l1 H1 h3
        exact ⟨k + 1, e, l', H', .more h1 h4, h5⟩
      | exit i => exact ⟨1, _, _, _, .last h1 (by simp), h2⟩
      | ret => exact ⟨1, _, _, _, .last h1 (by simp), h2⟩
  obtain ⟨k, e, l', H', h1, h2⟩ := key n l H h
  exact ⟨e, l', H', .loop h1, h2⟩

theorem Wp.region {id : Nat} {ops : Array Oper} {l : List Value} {Q : Out} (h : opsW P ops ops.toList l H fun l H => Q .normal l H) : Wp P (.region id ops false) l H Q := by
  obtain ⟨l', H', h1, h2⟩ := opsR_of_W h
  exact ⟨_, _, _, .region h1, h2⟩

theorem Wp.draw (hmix : P.follows .mixedOrders = true) {id : Nat} {ops : Array Oper} {l : List Value} {Q : Out} (htab : drawTab ops = some []) (h : opsW P ops ops.toList l H fun l H => Q .normal l H) : Wp P (.region id ops true) l H Q := by
  obtain ⟨l', H', h1, h2⟩ := opsR_of_W h
  exact ⟨_, _, _, .draw0 hmix htab h1, h2⟩

/-- A function, out of its body. -/
theorem CallOk.of_wp {f : FuncId} {fn : Func} {c : Code} {args : List Value} (hf : P.funcs[f]? = some fn) (hb : fn.body = some c) (hn : (fn.name == "runtime.NumGoroutine") = false) {Q : Value → Heap → Prop}
    (h : Wp P c (args ++ List.replicate (fn.ntmps - args.length) undef) H fun e l H1 => (e = .normal ∨ e = .ret) ∧ ∃ v, resultsD P fn l H1 = some v ∧ Q v H1) : ∃ v H', CallOk P f args H v H' ∧ Q v H' := by
  obtain ⟨e, l', H', h1, h2, v, h3, h4⟩ := h
  exact ⟨v, H', .of_sim hf hb hn h1 h2 h3, h4⟩

/-! ### Slots -/
theorem get_put (l : List Value) (d : Option Tmp) (v : Value) (t : Tmp) : get (put l d v) t = if d = some t ∧ t < l.length then v else get l t := ev_put l d v t

theorem get_put_same {l : List Value} {d : Tmp} {v : Value} (h : d < l.length) : get (put l (some d) v) d = v := by rw [get_put, if_pos ⟨rfl, h⟩]
theorem get_put_ne {l : List Value} {d t : Tmp} {v : Value} (h : d ≠ t) : get (put l (some d) v) t = get l t := by rw [get_put, if_neg (fun hh => h (Option.some.inj hh.1))]
theorem put_none (l : List Value) (v : Value) : put l none v = l := rfl
end
end Go.Ds
/-
  Ds: words that lead a symbolic run from operation to operation.
-/
namespace Go.Ds
noncomputable section
variable {P : Program} {H : Heap}

def letV (v : Value) (K : Value → Prop) (_k : Keep K := ⟨⟩) : Prop := K v
theorem letV_congr {v v' : Value} {K : Value → Prop} (h : v = v') : letV v K = letV v' K := by rw [h]
attribute [congr] letV_congr
theorem letV_eq (v : Value) (K : Value → Prop) : letV v K = K v := rfl

def bindV (r : Option Value) (K : Value → Prop) (_k : Keep K := ⟨⟩) : Prop := match r with | some v => K v | none => False
theorem bindV_congr {r r' : Option Value} {K : Value → Prop} (h : r = r') : bindV r K = bindV r' K := by rw [h]
attribute [congr] bindV_congr
theorem bindV_some (v : Value) (K : Value → Prop) : bindV (some v) K = K v := rfl

theorem bindW_congr {r r' : Option (Value × Heap)} {K : Value → Heap → Prop} (h : r = r') : bindW r K = bindW r' K := by rw [h]
attribute [congr] bindW_congr

def andW (b : Bool) (p : Prop) (_k : Keep p := ⟨⟩) : Prop := b = true ∧ p
theorem andW_congr {b b' : Bool} {p : Prop} (h : b = b') : andW b p = andW b' p := by rw [h]
attribute [congr] andW_congr
theorem andW_true (p : Prop) : andW true p = p := by simp [andW]

/-- The value of an operand, and on. -/
def opdW (x : Operand) (l : List Value) (K : Value → Prop) (_k : Keep K := ⟨⟩) : Prop := operandOk x = true ∧ K (ev l x)
theorem opdW_congr {x : Operand} {l : List Value} {K : Value → Prop} (h : x = x) : opdW x l K = opdW x l K := rfl
theorem opdW_tmp (t : Tmp) (l : List Value) (K : Value → Prop) : opdW (.tmp t) l K = letV (get l t) K := by simp [opdW, operandOk, ev, letV]
theorem opdW_const (v : Value) (l : List Value) (K : Value → Prop) : opdW (.const v) l K = andW (flat v) (K v) := by simp [opdW, operandOk, ev, andW]
theorem opdW_func (f : FuncId) (l : List Value) (K : Value → Prop) : opdW (.func f) l K = K (.func (.func f) #[] #[]) := by simp [opdW, operandOk, ev]

/-- Several operands. -/
def opdsW : List Operand → List Value → (List Value → Prop) → Prop
  | [], _, K => K []
  | x :: xs, l, K => opdW x l fun v => opdsW xs l fun vs => K (v :: vs)

theorem opdsW_eq : ∀ (xs : List Operand) (l : List Value) (K : List Value → Prop), opdsW xs l K = (xs.all operandOk = true ∧ K (xs.map (ev l)))
  | [], l, K => by simp [opdsW]
  | x :: xs, l, K => by simp [opdsW, opdsW_eq, opdW, and_assoc]

theorem opdsW_nil (l : List Value) (K : List Value → Prop) : opdsW [] l K = K [] := rfl
theorem opdsW_cons (x : Operand) (xs : List Operand) (l : List Value) (K : List Value → Prop) : opdsW (x :: xs) l K = opdW x l fun v => opdsW xs l fun vs => K (v :: vs) := rfl

theorem opW_move (d ty pos af g) (x : Operand) (l : List Value) (K : Value → Heap → Prop) : opW P ⟨d, .move x, ty, pos, af, g⟩ l H K = opdW x l fun v => K v H := by
  simp [opW, opdW, Op.operands]
theorem opW_assign (d ty pos af g) (x : Operand) (l : List Value) (K : Value → Heap → Prop) : opW P ⟨d, .assign x, ty, pos, af, g⟩ l H K = opdW x l fun v => K v H := by
  simp [opW, opdW, Op.operands]

/-- The one of two. -/
def pickW (c a b : Value) (K : Value → Prop) (_k : Keep K := ⟨⟩) : Prop := match c with | .bool t => K (if t then a else b) | _ => False
theorem pickW_congr {c c' a b : Value} {K : Value → Prop} (h : c = c') : pickW c a b K = pickW c' a b K := by rw [h]
attribute [congr] pickW_congr
theorem pickW_true (a b : Value) (K : Value → Prop) : pickW (.bool true) a b K = K a := rfl
theorem pickW_false (a b : Value) (K : Value → Prop) : pickW (.bool false) a b K = K b := rfl
theorem pickW_bools (c x y : Bool) (K : Value → Prop) : pickW (.bool c) (.bool x) (.bool y) K = K (.bool (if c then x else y)) := by cases c <;> rfl

theorem opW_pick (d ty pos af g) (c a b : Operand) (l : List Value) (K : Value → Heap → Prop) : opW P ⟨d, .pick c a b, ty, pos, af, g⟩ l H K = opdW c l fun c => opdW a l fun a => opdW b l fun b => pickW c a b fun v => K v H := by
  simp only [opW, opdW, Op.operands, opD, pickW, List.all_cons, List.all_nil, Bool.and_true, Bool.and_eq_true, and_assoc]
  congr 1; congr 1; congr 1
  cases ev l c <;> simp [bindW]

theorem bindW_ex (r : Option (Value × Heap)) (K : Value → Heap → Prop) : bindW r K = ∃ v H1, r = some (v, H1) ∧ K v H1 := by
  cases r with
  | none => simp [bindW]
  | some r =>
    obtain ⟨a, b⟩ := r
    exact propext ⟨fun h => ⟨a, b, rfl, h⟩, fun ⟨_, _, h, k⟩ => by cases h; exact k⟩

/-- Loading. -/
def ldW (a : Option Bool) (s : Option Nat) (H : Heap) (v : Value) : Option Value :=
  match v with
  | .pointer (some ⟨A, i, some e⟩) =>
    match a with
    | some true => s.bind fun n => (cellsAt H A i e n).map fun l => .agg l.toArray
    | some false => (cellsAt H A i e 1).bind fun l => l[0]?
    | none => none
  | _ => none

theorem loadD_eq (t : TypeId) (v : Value) : loadD P H t v = ldW (aggP P t) (sizeP P t) H v := rfl

theorem opW_load (d ty pos af g) (t : TypeId) (a : Operand) (l : List Value) (K : Value → Heap → Prop) : opW P ⟨d, .load t a, ty, pos, af, g⟩ l H K = opdW a l fun p => bindV (ldW (aggP P t) (sizeP P t) H p) fun v => K v H := by
  simp only [opW, opdW, Op.operands, opD, List.all_cons, List.all_nil, Bool.and_true, loadD_eq]
  cases ldW (aggP P t) (sizeP P t) H (ev l a) <;> simp [bindW, bindV]

/-- Storing. -/
def storeW (P : Program) (H : Heap) (t : TypeId) (p v : Value) (K : Heap → Prop) (_k : Keep K := ⟨⟩) : Prop := ∃ H1, storeD P H t p v = some H1 ∧ K H1
theorem storeW_congr {t : TypeId} {p p' v v' : Value} {K : Heap → Prop} (h1 : p = p') (h2 : v = v') : storeW P H t p v K = storeW P H t p' v' K := by rw [h1, h2]
attribute [congr] storeW_congr

theorem opW_store (d ty pos af g) (t : TypeId) (a x : Operand) (l : List Value) (K : Value → Heap → Prop) : opW P ⟨d, .store t a x, ty, pos, af, g⟩ l H K = opdW a l fun p => opdW x l fun v => storeW P H t p v fun H1 => K undef H1 := by
  simp only [opW, opdW, Op.operands, opD, List.all_cons, List.all_nil, Bool.and_true, Bool.and_eq_true, and_assoc, storeW]
  cases storeD P H t (ev l a) (ev l x) <;> simp [bindW]

/-- A new row that holds a value. -/
def newW (P : Program) (H : Heap) (t : TypeId) (v : Value) (K : Value → Heap → Prop) (_k : Keep K := ⟨⟩) : Prop := ∃ p H1, newD P H t v = some (p, H1) ∧ K p H1
theorem newW_congr {t : TypeId} {v v' : Value} {K : Value → Heap → Prop} (h : v = v') : newW P H t v K = newW P H t v' K := by rw [h]
attribute [congr] newW_congr

theorem bindW_newW (t : TypeId) (v : Value) (K : Value → Heap → Prop) : bindW (newD P H t v) K = newW P H t v K := bindW_ex _ _

def allocW (P : Program) (H : Heap) (t : TypeId) (z : Option Value) (K : Value → Heap → Prop) (_k : Keep K := ⟨⟩) : Prop := match z with | some z => flat1 z = true ∧ newW P H t z K | none => False
theorem allocW_congr {t : TypeId} {z z' : Option Value} {K : Value → Heap → Prop} (h : z = z') : allocW P H t z K = allocW P H t z' K := by rw [h]
attribute [congr] allocW_congr
theorem allocW_some (t : TypeId) (z : Value) (K : Value → Heap → Prop) : allocW P H t (some z) K = andW (flat1 z) (newW P H t z K) := rfl

theorem opW_alloc (d ty pos af g) (t : TypeId) (l : List Value) (K : Value → Heap → Prop) : opW P ⟨d, .alloc t, ty, pos, af, g⟩ l H K = allocW P H t (zeroP P t) K := by
  simp only [opW, Op.operands, opD, List.all_nil, true_and, allocW]
  cases zeroP P t with
  | none => simp [bindW]
  | some z =>
    simp only [Option.bind_some]
    by_cases hz : flat1 z = true
    · simp only [hz, if_true, true_and]; exact bindW_newW t z K
    · simp [hz, bindW]

theorem opW_box (d ty pos af g) (t : TypeId) (x : Operand) (l : List Value) (K : Value → Heap → Prop) : opW P ⟨d, .box t x, ty, pos, af, g⟩ l H K = opdW x l fun v => newW P H t v K := by
  simp only [opW, opdW, Op.operands, opD, List.all_cons, List.all_nil, Bool.and_true, bindW_newW]

/-- A struct or an array, out of its parts. -/
def partsW : List (Nat × Operand) → List Value → (List (Nat × Value) → Prop) → Prop
  | [], _, K => K []
  | (i, x) :: xs, l, K => opdW x l fun v => partsW xs l fun vs => K ((i, v) :: vs)

theorem partsW_eq : ∀ (xs : List (Nat × Operand)) (l : List Value) (K : List (Nat × Value) → Prop), partsW xs l K = ((xs.map (·.2)).all operandOk = true ∧ K (xs.map fun (i, x) => (i, ev l x)))
  | [], l, K => by simp [partsW]
  | (i, x) :: xs, l, K => by simp [partsW, partsW_eq, opdW, and_assoc]

theorem partsW_nil (l : List Value) (K : List (Nat × Value) → Prop) : partsW [] l K = K [] := rfl
theorem partsW_cons (i : Nat) (x : Operand) (xs : List (Nat × Operand)) (l : List Value) (K : List (Nat × Value) → Prop) : partsW ((i, x) :: xs) l K = opdW x l fun v => partsW xs l fun vs => K ((i, v) :: vs) := rfl

def builtV (P : Program) (t : TypeId) (ps : List (Nat × Value)) : Option Value :=
  if (zeroP P t).any flat1 && ps.all (fun x => x.2.cells.toList.all oneCell) then (P.built t ps).map fun cs => .agg cs else none

theorem opW_build (d ty pos af g) (t : TypeId) (parts : List (Nat × Operand)) (l : List Value) (K : Value → Heap → Prop) :
    opW P ⟨d, .build t parts.toArray, ty, pos, af, g⟩ l H K = partsW parts l fun ps => bindV (builtV P t ps) fun v => K v H := by
  rw [partsW_eq]
  simp only [opW, Op.operands, opD, builtV, List.map_toArray]
  congr 1
  split
  · cases P.built t (parts.map fun (i, x) => (i, ev l x)) <;> simp [bindW, bindV]
  · simp [bindW, bindV]

/-- A slice out of its elements. -/
def sliceOfD (P : Program) (H : Heap) (t : TypeId) (len : Nat) (ps : List (Nat × Value)) : Option (Value × Heap) :=
  (sliceElem P t).bind fun elem => (sizeP P elem).bind fun size => (zeroP P elem).bind fun z =>
    if flat1 z && ps.all (fun x => x.2.cells.toList.all oneCell) && len * size ≤ 2 ^ 24 && len * size != 0 && z.cells.size == size then
      (Instr.fill (fun i => some (i * size, size)) ((Array.range (len * size)).map (z.cells[· % z.cells.size]!)) ps).map fun cs =>
        (.slice (some ⟨H.length, 0, some cs.toList.length⟩) len size, rowD H elem cs.toList)
    else none

def sliceOfW (P : Program) (H : Heap) (t : TypeId) (len : Nat) (ps : List (Nat × Value)) (K : Value → Heap → Prop) (_k : Keep K := ⟨⟩) : Prop := ∃ v H1, sliceOfD P H t len ps = some (v, H1) ∧ K v H1
theorem sliceOfW_congr {t : TypeId} {len : Nat} {ps ps' : List (Nat × Value)} {K : Value → Heap → Prop} (h : ps = ps') : sliceOfW P H t len ps K = sliceOfW P H t len ps' K := by rw [h]
attribute [congr] sliceOfW_congr

theorem opW_buildSlice (d ty pos af g) (t : TypeId) (len : Nat) (parts : List (Nat × Operand)) (l : List Value) (K : Value → Heap → Prop) :
    opW P ⟨d, .buildSlice t len parts.toArray, ty, pos, af, g⟩ l H K = partsW parts l fun ps => sliceOfW P H t len ps K := by
  rw [partsW_eq]
  simp only [opW, Op.operands, opD, List.map_toArray, sliceOfW, sliceOfD]
  rw [← bindW_ex]

def makeSliceD (P : Program) (H : Heap) (t : TypeId) (n c : Value) : Option (Value × Heap) :=
    (sliceElem P t).bind fun elem => (sizeP P elem).bind fun size => (bytesP P elem).bind fun bytes => (zeroP P elem).bind fun z =>
    match n, c with
    | .int .i64 a, .int .i64 b =>
      if flat1 z && a == b && 0 ≤ a && a * (bytes + 1) ≤ (roomD : Int) && size != 0 && z.cells.size == size then
        let cs := if size = 1 then List.replicate a.toNat (z.cells[0]!) else (madeCells z.cells (a.toNat * size)).toList
        some (.slice (some ⟨H.length, 0, some cs.length⟩) a.toNat size, rowD H elem cs)
      else none
    | _, _ => none

def makeSliceW (P : Program) (H : Heap) (t : TypeId) (n c : Value) (K : Value → Heap → Prop) (_k : Keep K := ⟨⟩) : Prop := ∃ v H1, makeSliceD P H t n c = some (v, H1) ∧ K v H1
theorem makeSliceW_congr {t : TypeId} {n n' c c' : Value} {K : Value → Heap → Prop} (h : n = n') (h2 : c = c') : makeSliceW P H t n c K = makeSliceW P H t n' c' K := by rw [h, h2]
attribute [congr] makeSliceW_congr

theorem opW_makeSlice (d ty pos af g) (t : TypeId) (n c : Operand) (l : List Value) (K : Value → Heap → Prop) :
    opW P ⟨d, .makeSlice t n c, ty, pos, af, g⟩ l H K = opdW n l fun n => opdW c l fun c => makeSliceW P H t n c K := by
  change ((#[n, c].toList.all operandOk = true) ∧ bindW (makeSliceD P H t (ev l n) (ev l c)) K) = _
  rw [bindW_ex]
  simp only [opdW, makeSliceW, List.all_cons, List.all_nil, Bool.and_true, Bool.and_eq_true, and_assoc]

/-- Appending. -/
def appendW (P : Program) (H : Heap) (t : TypeId) (s x : Value) (K : Value → Heap → Prop) (_k : Keep K := ⟨⟩) : Prop := ∃ v H1, appendD P H t s x = some (v, H1) ∧ K v H1
theorem appendW_congr {t : TypeId} {s s' x x' : Value} {K : Value → Heap → Prop} (h : s = s') (h2 : x = x') : appendW P H t s x K = appendW P H t s' x' K := by rw [h, h2]
attribute [congr] appendW_congr

def notIntT (P : Program) (t : TypeId) : Bool := ((P.underlying t).map notInt) == some true

theorem opW_append (d ty pos af g) (s x : Operand) (t1 t2 : TypeId) (l : List Value) (K : Value → Heap → Prop) :
    opW P ⟨d, .call { callee := .builtin .append, args := #[s, x], argTypes := #[t1, t2] }, ty, pos, af, g⟩ l H K = andW (notIntT P t2) (opdW s l fun s => opdW x l fun x => appendW P H t1 s x K) := by
  simp only [opW, opdW, Op.operands, Call.operands, opD, appendW, andW, notIntT]
  rw [← bindW_ex]
  by_cases h : (((P.underlying t2).map notInt) == some true) = true
  · simp [h, and_assoc]
  · simp [h, bindW]

def copyW (P : Program) (H : Heap) (t : TypeId) (s x : Value) (K : Value → Heap → Prop) (_k : Keep K := ⟨⟩) : Prop := ∃ v H1, copyD P H t s x = some (v, H1) ∧ K v H1
theorem copyW_congr {t : TypeId} {s s' x x' : Value} {K : Value → Heap → Prop} (h : s = s') (h2 : x = x') : copyW P H t s x K = copyW P H t s' x' K := by rw [h, h2]
attribute [congr] copyW_congr

theorem opW_copy (d ty pos af g) (s x : Operand) (t1 t2 : TypeId) (l : List Value) (K : Value → Heap → Prop) :
    opW P ⟨d, .call { callee := .builtin .copy, args := #[s, x], argTypes := #[t1, t2] }, ty, pos, af, g⟩ l H K = opdW s l fun s => opdW x l fun x => copyW P H t1 s x K := by
  simp only [opW, opdW, Op.operands, Call.operands, opD, copyW]
  rw [← bindW_ex]
  simp [and_assoc]

def clearW (P : Program) (H : Heap) (t : TypeId) (s : Value) (K : Value → Heap → Prop) (_k : Keep K := ⟨⟩) : Prop := ∃ v H1, clearD P H t s = some (v, H1) ∧ K v H1
theorem clearW_congr {t : TypeId} {s s' : Value} {K : Value → Heap → Prop} (h : s = s') : clearW P H t s K = clearW P H t s' K := by rw [h]
attribute [congr] clearW_congr

theorem opW_clear (d ty pos af g) (s : Operand) (t1 : TypeId) (l : List Value) (K : Value → Heap → Prop) :
    opW P ⟨d, .call { callee := .builtin .clear, args := #[s], argTypes := #[t1] }, ty, pos, af, g⟩ l H K = opdW s l fun s => clearW P H t1 s K := by
  simp only [opW, opdW, Op.operands, Call.operands, opD, clearW]
  rw [← bindW_ex]
  simp [and_assoc]

/-- How long something is. -/
def lenV (P : Program) (H : Heap) (t : TypeId) (v : Value) : Option Value :=
  match (P.underlying t), v with
  | some (.slice _), .slice a n k => lenD H (.slice a n k)
  | some .string, .string s => lenD H (.string s)
  | some (.map _ _), .map r => lenD H (.map r)
  | _, _ => none

theorem opW_len (d ty pos af g) (x : Operand) (t : TypeId) (l : List Value) (K : Value → Heap → Prop) :
    opW P ⟨d, .call { callee := .builtin .len, args := #[x], argTypes := #[t] }, ty, pos, af, g⟩ l H K = opdW x l fun x => bindV (lenV P H t x) fun v => K v H := by
  have h : opD P ⟨d, .call { callee := .builtin .len, args := #[x], argTypes := #[t] }, ty, pos, af, g⟩ l H = (lenV P H t (ev l x)).map fun v => (v, H) := by
    simp only [opD, lenV]
    simp only [List.size_toArray, List.length_cons, List.length_nil, Nat.zero_add, BEq.rfl, Bool.and_self, if_true]
    simp only [Array.getD_eq_getD_getElem?, List.getElem?_toArray, List.getElem?_cons_zero, Option.getD_some]
    cases P.underlying t with
    | none => rfl
    | some u => cases u <;> cases ev l x <;> rfl
  simp only [opW, h, opdW, Op.operands, Call.operands]
  have h2 : bindW ((lenV P H t (ev l x)).map fun v => (v, H)) K = bindV (lenV P H t (ev l x)) fun v => K v H := by cases lenV P H t (ev l x) <;> rfl
  rw [h2]
  simp

/-! ### Addresses -/
/-- The address of a field of an item of a slice. -/
def elemPtr (v : Value) (size j f : Nat) : Value := match v with
  | .slice (some ⟨A, i, s⟩) _ _ => .pointer (some ⟨A, i + j * size + f, s⟩)
  | _ => .pointer none

def fldV (P : Program) (s : TypeId) (f : Nat) (v : Value) : Option Value := match v with
  | .pointer (some ⟨A, i, some e⟩) => (fieldD P s f).bind fun fd => (sizeP P fd.type).bind fun n => if n == 0 then none else some (.pointer (some ⟨A, i + fd.offset, some e⟩))
  | _ => none

theorem opW_fieldAddr (d ty pos af g) (s : TypeId) (x : Operand) (f : Nat) (l : List Value) (K : Value → Heap → Prop) :
    opW P ⟨d, .fieldAddr s x f, ty, pos, af, g⟩ l H K = opdW x l fun x => bindV (fldV P s f x) fun v => K v H := by
  have h : opD P ⟨d, .fieldAddr s x f, ty, pos, af, g⟩ l H = (fldV P s f (ev l x)).map fun v => (v, H) := by
    simp only [opD, fldV]
    generalize ev l x = vx
    split
    · dsimp only
      cases fieldD P s f with
      | none => rfl
      | some fd =>
        simp only [Option.bind_some]
        cases sizeP P fd.type with
        | none => rfl
        | some n => simp only [Option.bind_some]; split <;> rfl
    · rename_i hne
      split
      · exact (hne _ _ _ rfl).elim
      · rfl
  have h2 : bindW ((fldV P s f (ev l x)).map fun v => (v, H)) K = bindV (fldV P s f (ev l x)) fun v => K v H := by cases fldV P s f (ev l x) <;> rfl
  simp only [opW, h, opdW, Op.operands, h2]
  simp

def idxV (P : Program) (t : TypeId) (v i : Value) : Option Value :=
  match P.underlying t, v, i with
    | some (.slice elem), .slice (some ⟨A, i, some e⟩) n _, .int _ j => (sizeP P elem).bind fun size =>
      if 0 ≤ j && j < n then some (.pointer (some ⟨A, i + j.toNat * size, some e⟩)) else none
    | some (.array n elem), .pointer (some ⟨A, i, some e⟩), .int _ j => (sizeP P elem).bind fun size =>
      if 0 ≤ j && j < n then some (.pointer (some ⟨A, i + j.toNat * size, some e⟩)) else none
    | _, _, _ => none

theorem opW_indexAddr (d ty pos af g) (t : TypeId) (x i : Operand) (l : List Value) (K : Value → Heap → Prop) :
    opW P ⟨d, .indexAddr t x i, ty, pos, af, g⟩ l H K = opdW x l fun x => opdW i l fun i => bindV (idxV P t x i) fun v => K v H := by
  have h : opD P ⟨d, .indexAddr t x i, ty, pos, af, g⟩ l H = (idxV P t (ev l x) (ev l i)).map fun v => (v, H) := by
    simp only [opD, idxV]
    generalize ev l x = vx
    generalize ev l i = vi
    generalize P.underlying t = u
    split
    · dsimp only
      cases sizeP P _ with
      | none => rfl
      | some n => simp only [Option.bind_some]; split <;> rfl
    · dsimp only
      cases sizeP P _ with
      | none => rfl
      | some n => simp only [Option.bind_some]; split <;> rfl
    · rename_i h1 h2
      split
      · exact (h1 _ _ _ _ _ _ _ _ rfl rfl rfl).elim
      · exact (h2 _ _ _ _ _ _ _ rfl rfl rfl).elim
      · rfl
  have h2 : bindW ((idxV P t (ev l x) (ev l i)).map fun v => (v, H)) K = bindV (idxV P t (ev l x) (ev l i)) fun v => K v H := by cases idxV P t (ev l x) (ev l i) <;> rfl
  simp only [opW, h, opdW, Op.operands, h2]
  simp [and_assoc]

/-! ### Numbers -/
def binW (P : Program) (o : Oper) (op : BinOp) (l : List Value) (H : Heap) (x y : Value) (K : Value → Heap → Prop) (_k : Keep K := ⟨⟩) : Prop := match x, y with
  | .int k a, .int k' b => (match (if k = k' then binI op k a b else none) with | some v => K v H | none => bindW (opD P o l H) K)
  | _, _ => bindW (opD P o l H) K
theorem binW_congr {o : Oper} {op : BinOp} {l : List Value} {x x' y y' : Value} {K : Value → Heap → Prop} (h : x = x') (h2 : y = y') : binW P o op l H x y K = binW P o op l H x' y' K := by rw [h, h2]
attribute [congr] binW_congr

theorem plain_fst (o o' : Oper) (l l' : List Value) (H : Heap) (h1 : o.op.operands.toList.map (ev l) = o'.op.operands.toList.map (ev l')) (h2 : execOp (ev l) o = execOp (ev l') o') :
    plainD P o l H = ((plainD P o' l' .nil).map (·.1)).map fun v => (v, H) := by
  have h3 : ∀ (l : List Value) (xs : List Operand), xs.all (fun x => flat (ev l x)) = (xs.map (ev l)).all flat := fun l xs => by simp [List.all_map, Function.comp_def]
  unfold plainD
  rw [h3, h1, ← h3, h2]
  split
  · split
    · split <;> rfl
    · rfl
  · rfl

theorem opW_bin (d ty pos af g) (op : BinOp) (t : TypeId) (x y : Operand) (t2 : TypeId) (l : List Value) (K : Value → Heap → Prop) :
    opW P ⟨d, .binOp op t x y t2, ty, pos, af, g⟩ l H K = opdW x l fun x' => opdW y l fun y' => binW P ⟨d, .binOp op t x y t2, ty, pos, af, g⟩ op l H x' y' K := by
  have h : bindW (opD P ⟨d, .binOp op t x y t2, ty, pos, af, g⟩ l H) K = binW P ⟨d, .binOp op t x y t2, ty, pos, af, g⟩ op l H (ev l x) (ev l y) K := by
    unfold binW
    split
    · rename_i k a k' b hx hy
      split
      · rename_i v hv
        split at hv
        · rename_i hk
          subst hk
          simp [opD, hx, hy, hv]
        · cases hv
      · rfl
    · rfl
  simp only [opW, h, opdW, Op.operands]
  simp [and_assoc]

theorem binW_int (o : Oper) (op : BinOp) (l : List Value) (k : IntKind) (a b : Int) {v : Value} (K : Value → Heap → Prop) (h : binI op k a b = some v) : binW P o op l H (.int k a) (.int k b) K = letV v fun v => K v H := by
  simp [binW, h, letV]
theorem binW_add (o : Oper) (l : List Value) (k : IntKind) (a b : Int) (K : Value → Heap → Prop) : binW P o .add l H (.int k a) (.int k b) K = letV (.int k (k.wrap (a + b))) fun v => K v H := binW_int _ _ _ _ _ _ _ (by simp [binI, addI_eq, subI_eq, wrapI_eq])
theorem binW_sub (o : Oper) (l : List Value) (k : IntKind) (a b : Int) (K : Value → Heap → Prop) : binW P o .sub l H (.int k a) (.int k b) K = letV (.int k (k.wrap (a - b))) fun v => K v H := binW_int _ _ _ _ _ _ _ (by simp [binI, addI_eq, subI_eq, wrapI_eq])
theorem binW_mul (o : Oper) (l : List Value) (k : IntKind) (a b : Int) (K : Value → Heap → Prop) : binW P o .mul l H (.int k a) (.int k b) K = letV (.int k (k.wrap (a * b))) fun v => K v H := binW_int _ _ _ _ _ _ _ (by simp [binI, addI_eq, subI_eq, wrapI_eq])
theorem binW_eql (o : Oper) (l : List Value) (k : IntKind) (a b : Int) (K : Value → Heap → Prop) : binW P o .eql l H (.int k a) (.int k b) K = letV (.bool (decide (a = b))) fun v => K v H := binW_int _ _ _ _ _ _ _ (by simp [binI, eqI_eq]; rfl)
theorem binW_neq (o : Oper) (l : List Value) (k : IntKind) (a b : Int) (K : Value → Heap → Prop) : binW P o .neq l H (.int k a) (.int k b) K = letV (.bool (decide (¬ a = b))) fun v => K v H := binW_int _ _ _ _ _ _ _ (by simp [binI, eqI_eq]; rfl)
theorem binW_lss (o : Oper) (l : List Value) (k : IntKind) (a b : Int) (K : Value → Heap → Prop) : binW P o .lss l H (.int k a) (.int k b) K = letV (.bool (decide (a < b))) fun v => K v H := binW_int _ _ _ _ _ _ _ (by simp [binI, ltI_eq])
theorem binW_leq (o : Oper) (l : List Value) (k : IntKind) (a b : Int) (K : Value → Heap → Prop) : binW P o .leq l H (.int k a) (.int k b) K = letV (.bool (decide (a ≤ b))) fun v => K v H := binW_int _ _ _ _ _ _ _ (by simp [binI, ltI_eq, ← Int.not_lt])
theorem binW_gtr (o : Oper) (l : List Value) (k : IntKind) (a b : Int) (K : Value → Heap → Prop) : binW P o .gtr l H (.int k a) (.int k b) K = letV (.bool (decide (b < a))) fun v => K v H := binW_int _ _ _ _ _ _ _ (by simp [binI, ltI_eq])
theorem binW_geq (o : Oper) (l : List Value) (k : IntKind) (a b : Int) (K : Value → Heap → Prop) : binW P o .geq l H (.int k a) (.int k b) K = letV (.bool (decide (b ≤ a))) fun v => K v H := binW_int _ _ _ _ _ _ _ (by simp [binI, ltI_eq, ← Int.not_lt])
theorem binW_rem (o : Oper) (l : List Value) (k : IntKind) (a b : Int) (K : Value → Heap → Prop) (hb : b ≠ 0) : binW P o .rem l H (.int k a) (.int k b) K = letV (.int k (a.tmod b)) fun v => K v H := binW_int _ _ _ _ _ _ _ (by
  have : (b == 0) = false := by simp [hb]
  simp [binI, eqI_eq, this])
theorem binW_quo (o : Oper) (l : List Value) (k : IntKind) (a b : Int) (K : Value → Heap → Prop) (hb : b ≠ 0) : binW P o .quo l H (.int k a) (.int k b) K = letV (.int k (k.wrap (a.tdiv b))) fun v => K v H := binW_int _ _ _ _ _ _ _ (by
  have : (b == 0) = false := by simp [hb]
  simp [binI, eqI_eq, wrapI_eq, this])

def unV (P : Program) (op : UnOp) (t : TypeId) (x : Value) : Option Value := (opD P ⟨none, .unOp op t (.const x), t, "", #[], none⟩ [] .nil).map (·.1)

theorem opW_un (d ty pos af g) (op : UnOp) (t : TypeId) (x : Operand) (l : List Value) (K : Value → Heap → Prop) :
    opW P ⟨d, .unOp op t x, ty, pos, af, g⟩ l H K = opdW x l fun x => bindV (unV P op t x) fun v => K v H := by
  have h : opD P ⟨d, .unOp op t x, ty, pos, af, g⟩ l H = (unV P op t (ev l x)).map fun v => (v, H) := by
    have hp := plain_fst (P := P) ⟨d, .unOp op t x, ty, pos, af, g⟩ ⟨none, .unOp op t (.const (ev l x)), t, "", #[], none⟩ l [] H rfl rfl
    simp only [opD, unV, hp]
    generalize plainD P _ _ _ = r
    have e1 : ∀ v, ev [] (.const v) = v := fun _ => rfl
    simp only [e1]
    generalize ev l x = vx
    split <;> simp
  have h2 : bindW ((unV P op t (ev l x)).map fun v => (v, H)) K = bindV (unV P op t (ev l x)) fun v => K v H := by cases unV P op t (ev l x) <;> rfl
  simp only [opW, h, opdW, Op.operands, h2]
  simp
theorem unV_not (t : TypeId) (b : Bool) : unV P .not t (.bool b) = some (.bool (!b)) := by simp [unV, opD, ev]

def convV (P : Program) (s t : TypeId) (x : Value) : Option Value := (plainD P ⟨none, .convert s t (.const x), t, "", #[], none⟩ [] .nil).map (·.1)
theorem opW_convert (d ty pos af g) (s t : TypeId) (x : Operand) (l : List Value) (K : Value → Heap → Prop) :
    opW P ⟨d, .convert s t x, ty, pos, af, g⟩ l H K = opdW x l fun x => bindV (convV P s t x) fun v => K v H := by
  have h : opD P ⟨d, .convert s t x, ty, pos, af, g⟩ l H = (convV P s t (ev l x)).map fun v => (v, H) :=
    plain_fst (P := P) ⟨d, .convert s t x, ty, pos, af, g⟩ ⟨none, .convert s t (.const (ev l x)), t, "", #[], none⟩ l [] H rfl rfl
  have h2 : bindW ((convV P s t (ev l x)).map fun v => (v, H)) K = bindV (convV P s t (ev l x)) fun v => K v H := by cases convV P s t (ev l x) <;> rfl
  simp only [opW, h, opdW, Op.operands, h2]
  simp

/-! ### Parts of values -/
def extrV (v : Value) (i : Nat) : Option Value := match v with | .tuple vs => vs[i]? | _ => none
theorem opW_extract (d ty pos af g) (x : Operand) (i : Nat) (l : List Value) (K : Value → Heap → Prop) :
    opW P ⟨d, .extract x i, ty, pos, af, g⟩ l H K = opdW x l fun x => bindV (extrV x i) fun v => K v H := by
  have h : opD P ⟨d, .extract x i, ty, pos, af, g⟩ l H = (extrV (ev l x) i).map fun v => (v, H) := by
    simp only [opD, extrV]
    generalize ev l x = vx
    cases vx <;> rfl
  have h2 : bindW ((extrV (ev l x) i).map fun v => (v, H)) K = bindV (extrV (ev l x) i) fun v => K v H := by cases extrV (ev l x) i <;> rfl
  simp only [opW, h, opdW, Op.operands, h2]
  simp
theorem extrV_zero (a : Value) (l : List Value) : extrV (.tuple (a :: l).toArray) 0 = some a := by simp [extrV]
theorem extrV_one (a b : Value) (l : List Value) : extrV (.tuple (a :: b :: l).toArray) 1 = some b := by simp [extrV]
theorem extrV_two (a b c : Value) (l : List Value) : extrV (.tuple (a :: b :: c :: l).toArray) 2 = some c := by simp [extrV]

def fieldV (P : Program) (t : TypeId) (v : Value) (f : Nat) : Option Value := (opD P ⟨none, .field t (.const v) f, t, "", #[], none⟩ [] .nil).map (·.1)
theorem opW_field (d ty pos af g) (t : TypeId) (x : Operand) (f : Nat) (l : List Value) (K : Value → Heap → Prop) :
    opW P ⟨d, .field t x f, ty, pos, af, g⟩ l H K = opdW x l fun x => bindV (fieldV P t x f) fun v => K v H := by
  have h : opD P ⟨d, .field t x f, ty, pos, af, g⟩ l H = (fieldV P t (ev l x) f).map fun v => (v, H) := by
    have hp := plain_fst (P := P) ⟨d, .field t x f, ty, pos, af, g⟩ ⟨none, .field t (.const (ev l x)) f, t, "", #[], none⟩ l [] H rfl rfl
    simp only [opD, fieldV, hp]
    generalize plainD P _ _ _ = r
    have e1 : ∀ v, ev [] (.const v) = v := fun _ => rfl
    simp only [e1]
    generalize ev l x = vx
    split
    · cases r <;> rfl
    · rename_i hfl
      cases vx <;> try rfl
      rename_i cs
      dsimp only
      cases fieldD P t f with
      | none => rfl
      | some fd =>
        simp only [Option.bind_some]
        cases aggP P fd.type with
        | none => rfl
        | some b =>
          cases b
          · dsimp only; cases cs[fd.offset]? <;> rfl
          · dsimp only; cases sizeP P fd.type <;> rfl
  have h2 : bindW ((fieldV P t (ev l x) f).map fun v => (v, H)) K = bindV (fieldV P t (ev l x) f) fun v => K v H := by cases fieldV P t (ev l x) f <;> rfl
  simp only [opW, h, opdW, Op.operands, h2]
  simp

end
end Go.Ds
/-
  Ds: the symbolic run of regions, and the steps of code.
-/
namespace Go.Ds
noncomputable section
variable {P : Program} {H : Heap}

theorem callW_congr {f f' : Value} {args args' : List Value} {K : Value → Heap → Prop} (h1 : f = f') (h2 : args = args') : callW P f args H K = callW P f' args' H K := by rw [h1, h2]
attribute [congr] callW_congr

/-- The call of a function of the program. -/
def callFW (P : Program) (k : FuncId) (args : List Value) (H : Heap) (K : Value → Heap → Prop) (_k : Keep K := ⟨⟩) : Prop := ∃ v H1, Entered P k ∧ CallOk P k args H v H1 ∧ K v H1
theorem callFW_congr {k : FuncId} {args args' : List Value} {K : Value → Heap → Prop} (h2 : args = args') : callFW P k args H K = callFW P k args' H K := by rw [h2]
attribute [congr] callFW_congr
theorem callW_func (k : FuncId) (a b : List Value) (args : List Value) (K : Value → Heap → Prop) : callW P (.func (.func k) a.toArray b.toArray) args H K = callFW P k (a ++ args ++ b) H K := rfl

theorem opW_call (d ty pos af g) (f : Operand) (args : List Operand) (ts : Array TypeId) (l : List Value) (K : Value → Heap → Prop) :
    opW P ⟨d, .call { callee := .value f, args := args.toArray, argTypes := ts }, ty, pos, af, g⟩ l H K = opdW f l fun f => opdsW args l fun vs => callW P f vs H K := by
  simp only [opW, opdsW_eq, opdW, Op.operands, Call.operands]
  simp [and_assoc]

theorem opW_makeFunc (d ty pos af g) (f : FuncId) (captured : List Operand) (l : List Value) (K : Value → Heap → Prop) :
    opW P ⟨d, .makeFunc (.func f) #[] captured.toArray, ty, pos, af, g⟩ l H K = opdsW captured l fun vs => andW (vs.all isC0) (K (.func (.func f) #[] vs.toArray) H) := by
  simp only [opW, opdsW_eq, andW, Op.operands, opD]
  have e : (captured.map (ev l)).all isC0 = captured.all fun x => isC0 (ev l x) := by simp [List.all_map, Function.comp_def]
  rw [e]
  by_cases h : (captured.all fun x => isC0 (ev l x)) = true
  · simp [h]
  · simp [h, bindW]

/-! ### Regions -/
def dstAt (ops : Array Oper) (j : Nat) : Option Tmp := (ops[j]?).bind (·.dst)

def letG (v : Value) (b : Bool) (p q : Prop) (_k1 : Keep p := ⟨⟩) (_k2 : Keep q := ⟨⟩) : Prop := match v with | .bool c => if c = b then p else q | _ => q
theorem letG_congr {v v' : Value} {b : Bool} {p q : Prop} (h : v = v') : letG v b p q = letG v' b p q := by rw [h]
attribute [congr] letG_congr
theorem letG_tt (p q : Prop) : letG (.bool true) true p q = p := rfl
theorem letG_ff (p q : Prop) : letG (.bool false) false p q = p := rfl
theorem letG_tf (p q : Prop) : letG (.bool true) false p q = q := rfl
theorem letG_ft (p q : Prop) : letG (.bool false) true p q = q := rfl

theorem letG_undef (b : Bool) (p q : Prop) : letG undef b p q = q := rfl
theorem letG_split {c : Prop} [Decidable c] {p q : Prop} (h1 : c → p) (h2 : ¬ c → q) : letG (.bool (decide c)) true p q := by
  by_cases h : c
  · simp only [letG, h, decide_true, if_true]; exact h1 h
  · simp only [letG, h, decide_false, Bool.false_eq_true, if_false]; exact h2 h
theorem letG_split' {c : Prop} [Decidable c] {p q : Prop} (h1 : c → q) (h2 : ¬ c → p) : letG (.bool (decide c)) false p q := by
  by_cases h : c
  · simp only [letG, h, decide_true, Bool.true_eq_false, if_false]; exact h1 h
  · simp only [letG, h, decide_false, if_true]; exact h2 h

def guardW (d : Option Tmp) (l : List Value) (b : Bool) (p q : Prop) (_k1 : Keep p := ⟨⟩) (_k2 : Keep q := ⟨⟩) : Prop := match d with | some d => letG (get l d) b p q | none => q
theorem guardW_congr {d d' : Option Tmp} {l : List Value} {b : Bool} {p q : Prop} (h : d = d') : guardW d l b p q = guardW d' l b p q := by rw [h]
attribute [congr] guardW_congr
theorem guardW_some (d : Tmp) (l : List Value) (b : Bool) (p q : Prop) : guardW (some d) l b p q = letG (get l d) b p q := rfl

theorem wanted_eq (ops : Array Oper) (l : List Value) (d op ty pos af) (j : Nat) (b : Bool) :
    Region.wanted ⟨d, op, ty, pos, af, some (j, b)⟩ (yieldedD ops l) = (match dstAt ops j with | some d => (match get l d with | .bool c => c == b | _ => false) | none => false) := by
  show (yieldedD ops l j == some b) = _
  unfold yieldedD dstAt
  cases (ops[j]?).bind (·.dst) with
  | none => rfl
  | some t =>
    simp only [get_eq]
    rw [List.getD_eq_getElem?_getD]
    cases h : l[t]? with
    | none => rfl
    | some v =>
      simp only [Option.getD_some]
      cases v <;> rfl

theorem wanted_guard (ops : Array Oper) (l : List Value) (d op ty pos af) (j : Nat) (b : Bool) (p q : Prop) :
    (if Region.wanted ⟨d, op, ty, pos, af, some (j, b)⟩ (yieldedD ops l) = true then p else q) = guardW (dstAt ops j) l b p q := by
  rw [wanted_eq]
  cases dstAt ops j with
  | none => simp [guardW]
  | some t =>
    have key : ∀ v : Value, (if (match v with | .bool c => c == b | _ => false) = true then p else q) = letG v b p q := fun v => by
      cases v <;> simp [letG]
    exact key (get l t)

theorem opsW_nil (ops : Array Oper) (l : List Value) (K : List Value → Heap → Prop) : opsW P ops [] l H K = K l H := rfl
theorem opsW_cons (ops : Array Oper) (d op ty pos af) (os : List Oper) (l : List Value) (K : List Value → Heap → Prop) :
    opsW P ops (⟨d, op, ty, pos, af, none⟩ :: os) l H K = opW P ⟨d, op, ty, pos, af, none⟩ l H fun v H1 => opsW P ops os (put l d v) H1 K := by
  rw [opsW]; simp [Region.wanted]
theorem opsW_guard (ops : Array Oper) (d op ty pos af) (j : Nat) (b : Bool) (os : List Oper) (l : List Value) (K : List Value → Heap → Prop) :
    opsW P ops (⟨d, op, ty, pos, af, some (j, b)⟩ :: os) l H K = guardW (dstAt ops j) l b (opW P ⟨d, op, ty, pos, af, some (j, b)⟩ l H fun v H1 => opsW P ops os (put l d v) H1 K) (opsW P ops os (put l d undef) H K) := by
  rw [opsW, ← wanted_guard ops l d op ty pos af]

/-- The same with a trace. -/
def opsTW (P : Program) (ops : Array Oper) : List Oper → List (List Value × Heap × Value) → List Value → Heap → (List (List Value × Heap × Value) → List Value → Heap → Prop) → Prop
  | [], tr, l, H, K => K tr l H
  | o :: os, tr, l, H, K => if Region.wanted o (yieldedD ops l) = true then opW P o l H fun v H1 => opsTW P ops os (tr ++ [(l, H, v)]) (put l o.dst v) H1 K else opsTW P ops os (tr ++ [(l, H, undef)]) (put l o.dst undef) H K

theorem opsTW_nil (ops : Array Oper) (tr) (l : List Value) (K) : opsTW P ops [] tr l H K = K tr l H := rfl
theorem opsTW_cons (ops : Array Oper) (d op ty pos af) (os : List Oper) (tr) (l : List Value) (K) :
    opsTW P ops (⟨d, op, ty, pos, af, none⟩ :: os) tr l H K = opW P ⟨d, op, ty, pos, af, none⟩ l H fun v H1 => opsTW P ops os (tr ++ [(l, H, v)]) (put l d v) H1 K := by
  rw [opsTW]; simp [Region.wanted]
theorem opsTW_guard (ops : Array Oper) (d op ty pos af) (j : Nat) (b : Bool) (os : List Oper) (tr) (l : List Value) (K) :
    opsTW P ops (⟨d, op, ty, pos, af, some (j, b)⟩ :: os) tr l H K = guardW (dstAt ops j) l b (opW P ⟨d, op, ty, pos, af, some (j, b)⟩ l H fun v H1 => opsTW P ops os (tr ++ [(l, H, v)]) (put l d v) H1 K) (opsTW P ops os (tr ++ [(l, H, undef)]) (put l d undef) H K) := by
  rw [opsTW, ← wanted_guard ops l d op ty pos af]

theorem opsTW_sound {ops : Array Oper} {K : List (List Value × Heap × Value) → List Value → Heap → Prop} : ∀ (os : List Oper) (i : Nat), ops.toList.drop i = os → ∀ (tr : List (List Value × Heap × Value)) (l : List Value) (H : Heap), opsTW P ops os tr l H K →
    ∃ (T : Nat → List Value × Heap) (val : Nat → Value) (l' : List Value) (H' : Heap) (ext : List (List Value × Heap × Value)), T 0 = (l, H) ∧ T os.length = (l', H') ∧ ext.length = os.length ∧ (∀ k, k < os.length → ext[k]? = some ((T k).1, (T k).2, val k)) ∧
      (∀ k, k < os.length → StepT P ops (i + k) (T k) (T (k + 1)) (val k)) ∧ K (tr ++ ext) l' H'
  | [], i, _, tr, l, H, h => ⟨fun _ => (l, H), fun _ => undef, l, H, [], rfl, rfl, rfl, by simp, by simp, by simpa [opsTW] using h⟩
  | o :: os, i, hd, tr, l, H, h => by
    have ho : ops[i]? = some o := by
      have : (ops.toList.drop i)[0]? = some o := by rw [hd]; rfl
      rw [List.getElem?_drop] at this
      simpa using this
    have hd' : ops.toList.drop (i + 1) = os := by
      rw [← List.drop_drop, hd]; rfl
    have key : ∀ (v : Value) (H1 : Heap), StepT P ops i (l, H) (put l o.dst v, H1) v → opsTW P ops os (tr ++ [(l, H, v)]) (put l o.dst v) H1 K →
        ∃ (T : Nat → List Value × Heap) (val : Nat → Value) (l' : List Value) (H' : Heap) (ext : List (List Value × Heap × Value)), T 0 = (l, H) ∧ T (o :: os).length = (l', H') ∧ ext.length = (o :: os).length ∧ (∀ k, k < (o :: os).length → ext[k]? = some ((T k).1, (T k).2, val k)) ∧
          (∀ k, k < (o :: os).length → StepT P ops (i + k) (T k) (T (k + 1)) (val k)) ∧ K (tr ++ ext) l' H' := by
      intro v H1 hst hop
      obtain ⟨T, val, l', H', ext, h0, h1, h2, h3, h4, h5⟩ := opsTW_sound os (i + 1) hd' _ _ _ hop
      refine ⟨fun k => match k with | 0 => (l, H) | k + 1 => T k, fun k => match k with | 0 => v | k + 1 => val k, l', H', (l, H, v) :: ext, rfl, h1, by simp [h2], ?_, ?_, by simpa using h5⟩
      · intro k hk
        cases k with
        | zero => rfl
        | succ k => simpa using h3 k (by simpa using hk)
      · intro k hk
        cases k with
        | zero => simp only [h0]; exact hst
        | succ k =>
          have := h4 k (by simpa using hk)
          rw [show i + (k + 1) = i + 1 + k from by omega]
          exact this
    unfold opsTW at h
    split at h
    · rename_i hw
      obtain ⟨v, H1, h1, h2⟩ := opW_sound h
      exact key v H1 ⟨o, ho, rfl, .inl ⟨hw, h1⟩⟩ h2
    · rename_i hw
      exact key undef H ⟨o, ho, rfl, .inr ⟨by simpa using hw, rfl, rfl⟩⟩ h

/-- A read gives the same at another heap. -/
def rdOk (P : Program) (ops : Array Oper) (tr : List (List Value × Heap × Value)) (H1 : Heap) (i m : Nat) : Prop :=
  match ops[i]?, tr[i]? with
  | some o, some (l, _, v) => Region.wanted o (yieldedD ops l) = true → opW P o l (match tr[m]? with | some y => y.2.1 | none => H1) fun v' _ => v' = v
  | _, _ => False

/-- No operation of these is a call of a function value. -/
def noCallV (o : Oper) : Bool := match o.op with | .call c => (match c.callee with | .value _ => false | _ => true) | _ => true

def tabReads (ops : Array Oper) (tab : List (Nat × Nat)) : Bool := tab.all fun x => match ops[x.1]? with | some o => noCallV o | none => false

theorem opW_opD {o : Oper} {l : List Value} {K : Value → Heap → Prop} (hn : noCallV o = true) (h : opW P o l H K) : ∃ v H1, opD P o l H = some (v, H1) ∧ K v H1 := by
  obtain ⟨v, H1, h1, h2⟩ := opW_sound h
  refine ⟨v, H1, h1.opD fun c f hc hf => ?_, h2⟩
  simp [noCallV, hc, hf] at hn

theorem Wp.drawT (hmix : P.follows .mixedOrders = true) {id : Nat} {ops : Array Oper} {l : List Value} {Q : Out} (tab : List (Nat × Nat)) (htab : drawTab ops = some tab) (hn : tabReads ops tab = true)
    (h : opsTW P ops ops.toList [] l H fun tr l1 H1 => Q .normal l1 H1 ∧ ∀ x ∈ tab, rdOk P ops tr H1 x.1 x.2) : Wp P (.region id ops true) l H Q := by
  obtain ⟨T, val, l', H', ext, h0, h1, h2, h3, h4, h5, h6⟩ := opsTW_sound ops.toList 0 rfl [] l H h
  have hlen : ops.toList.length = ops.size := by simp
  rw [hlen] at h1 h2 h3 h4
  have := Sim.draw hmix (id := id) htab (T := T) (val := val) ⟨fun k hk => by simpa using h4 k hk⟩ fun i m o hm ho hw => by
    have hr := h6 (i, m) hm
    have hi : i < ops.size := (Array.getElem?_eq_some_iff.1 ho).1
    unfold rdOk at hr
    simp only [List.nil_append] at hr
    rw [ho, h3 i hi] at hr
    have hr := hr hw
    have hno : noCallV o = true := by
      unfold tabReads at hn
      have := List.all_eq_true.1 hn (i, m) hm
      simpa [ho] using this
    have hTm : (match ext[m]? with | some y => y.2.1 | none => H') = (T m).2 ∨ ops.size < m := by
      by_cases hm2 : m < ops.size
      · left; rw [h3 m hm2]
      · by_cases hm3 : m = ops.size
        · left
          rw [List.getElem?_eq_none (by omega), hm3, h1]
        · right; omega
    rcases hTm with hTm | hTm
    · rw [hTm] at hr
      obtain ⟨v, H2, h7, h8⟩ := opW_opD hno hr
      exact ⟨H2, by rw [h7, h8]⟩
    · exfalso
      unfold drawTab at htab
      split at htab
      · obtain rfl := Option.some.inj htab
        unfold readsOf at hm
        simp only [List.mem_flatMap, List.mem_ite_nil_right, List.mem_map, List.mem_filter, Prod.mk.injEq] at hm
        obtain ⟨y, _, _, m', ⟨hm', _⟩, _, rfl⟩ := hm
        simp only [List.mem_cons, List.mem_map] at hm'
        rcases hm' with rfl | ⟨k, hk, rfl⟩
        · omega
        · unfold mainsOf at hk
          simp only [List.mem_filterMap] at hk
          obtain ⟨z, hz, hz2⟩ := hk
          split at hz2
          · obtain rfl := Option.some.inj hz2
            have := List.snd_lt_of_mem_zipIdx hz
            simp at this
            omega
          · cases hz2
      · cases htab
  rw [h0, h1] at this
  exact ⟨_, _, _, this, h5⟩

/-! ### Code -/
theorem Wp_congr {c : Code} {l l' : List Value} {Q : Out} (h : l = l') : Wp P c l H Q = Wp P c l' H Q := by rw [h]
attribute [congr] Wp_congr

theorem seqQ_normal (b : Code) (Q : Out) (l : List Value) : seqQ P b Q .normal l H = Wp P b l H Q := rfl
theorem seqQ_exit (b : Code) (Q : Out) (i : Nat) (l : List Value) : seqQ P b Q (.exit i) l H = Q (.exit i) l H := rfl
theorem seqQ_ret (b : Code) (Q : Out) (l : List Value) : seqQ P b Q .ret l H = Q .ret l H := rfl
theorem blockQ_normal (id : Nat) (Q : Out) (l : List Value) : blockQ id Q .normal l H = Q .normal l H := rfl
theorem blockQ_ret (id : Nat) (Q : Out) (l : List Value) : blockQ id Q .ret l H = Q .ret l H := rfl
theorem blockQ_exit (id i : Nat) (Q : Out) (l : List Value) : blockQ id Q (.exit i) l H = if i = id then Q .normal l H else Q (.exit i) l H := by
  simp only [blockQ, Ex.out]
  split <;> rfl

/-- The code that follows, out of sight. -/
theorem Wp.seqG {a b : Code} {l : List Value} {Q : Out} (h : ∀ b', b' = b → Wp P a l H (seqQ P b' Q)) : Wp P (.seq a b) l H Q := .seq (h b rfl)

theorem Wp.iteG {t : Tmp} {x y : Code} {l : List Value} {Q : Out} (p : Prop) [Decidable p] (hc : get l t = .bool (decide p)) (hx : ∀ c, c = x → p → Wp P c l H Q) (hy : ∀ c, c = y → ¬ p → Wp P c l H Q) : Wp P (.cond (.tmp t) x y) l H Q :=
  .ite p hc rfl (hx x rfl) (hy y rfl)

theorem Wp.blockG {id : Nat} {b : Code} {l : List Value} {Q : Out} (h : ∀ b', b' = b → Wp P b' l H (blockQ id Q)) : Wp P (.block id b) l H Q := .block (h b rfl)

/-- What a round of a loop owes. -/
def roundQ (I : Nat → List Value → Heap → Prop) (n : Nat) (Q : Out) : Out := fun e l1 H1 => match e with | .normal => ∃ m, m < n ∧ I m l1 H1 | e => Q e l1 H1
theorem roundQ_normal (I : Nat → List Value → Heap → Prop) (n : Nat) (Q : Out) (l : List Value) : roundQ I n Q .normal l H = ∃ m, m < n ∧ I m l H := rfl
theorem roundQ_exit (I : Nat → List Value → Heap → Prop) (n : Nat) (Q : Out) (i : Nat) (l : List Value) : roundQ I n Q (.exit i) l H = Q (.exit i) l H := rfl
theorem roundQ_ret (I : Nat → List Value → Heap → Prop) (n : Nat) (Q : Out) (l : List Value) : roundQ I n Q .ret l H = Q .ret l H := rfl

theorem Wp.loopG {c : Code} {Q : Out} (I : Nat → List Value → Heap → Prop) {l : List Value} (n : Nat) (h : I n l H) (step : ∀ c', c' = c → ∀ n l H, I n l H → Wp P c' l H (roundQ I n Q)) : Wp P (.loop c) l H Q :=
  Wp.loop I (fun n l H hI => step c rfl n l H hI) n h

/-- A proof of what comes behind may be given once. -/
theorem Wp.cut {c : Code} {l : List Value} {Q : Out} (M : Out) (h : Wp P c l H M) (hm : ∀ e l H, M e l H → Q e l H) : Wp P c l H Q := h.mono hm

/-! ### Slots -/
theorem get_putS (l : List Value) (k t : Nat) (v : Value) : get (put l (some k) v) t = if k = t then (if k < l.length then v else get l t) else get l t := by
  rw [get_put]
  by_cases h : k = t
  · subst h; simp
  · simp [h]
theorem put_lengthS (l : List Value) (k : Nat) (v : Value) : (put l (some k) v).length = l.length := put_length l _ v


/-! ### Conditions -/
def condW (v : Value) (p q : Prop) (_k1 : Keep p := ⟨⟩) (_k2 : Keep q := ⟨⟩) : Prop := match v with | .bool c => if c = true then p else q | _ => False
theorem condW_congr {v v' : Value} {p q : Prop} (h : v = v') : condW v p q = condW v' p q := by rw [h]
attribute [congr] condW_congr
theorem condW_true (p q : Prop) : condW (.bool true) p q = p := rfl
theorem condW_false (p q : Prop) : condW (.bool false) p q = q := rfl
theorem condW_split {c : Prop} [Decidable c] {p q : Prop} (h1 : c → p) (h2 : ¬ c → q) : condW (.bool (decide c)) p q := by
  by_cases h : c
  · simp only [condW, h, decide_true, if_true]; exact h1 h
  · simp only [condW, h, decide_false, Bool.false_eq_true, if_false]; exact h2 h
theorem condW_bool {c : Bool} {p q : Prop} (h1 : c = true → p) (h2 : c = false → q) : condW (.bool c) p q := by
  cases c
  · exact h2 rfl
  · exact h1 rfl

theorem Wp.condG {t : Tmp} {x y : Code} {l : List Value} {Q : Out} (h : condW (get l t) (Wp P x l H Q) (Wp P y l H Q)) : Wp P (.cond (.tmp t) x y) l H Q := by
  unfold condW at h
  split at h
  · rename_i c hc
    refine Wp.cond c hc rfl ?_
    cases c
    · simpa using h
    · simpa using h
  · exact h.elim

/-- What comes behind a condition is proved once. -/
theorem condW_cut {v : Value} {x y : Code} {l : List Value} {Q : Out} (M : Out) (h : condW v (Wp P x l H M) (Wp P y l H M)) (hm : ∀ e l H, M e l H → Q e l H) : condW v (Wp P x l H Q) (Wp P y l H Q) := by
  cases v with
  | bool c =>
    cases c
    · exact Wp.mono (P := P) h hm
    · exact Wp.mono (P := P) h hm
  | _ => exact h

/-! ### Regions, their operations as a list -/
theorem Wp.reg {id : Nat} {os : List Oper} {l : List Value} {Q : Out} (h : opsW P os.toArray os l H fun l H => Q .normal l H) : Wp P (.region id os.toArray false) l H Q := .region h

theorem Wp.drw (hmix : P.follows .mixedOrders = true) {id : Nat} {os : List Oper} {l : List Value} {Q : Out} (htab : drawTab os.toArray = some []) (h : opsW P os.toArray os l H fun l H => Q .normal l H) : Wp P (.region id os.toArray true) l H Q :=
  .draw hmix htab h

def tabOk (f : Nat → Nat → Prop) : List (Nat × Nat) → Prop
  | [] => True
  | (i, m) :: r => f i m ∧ tabOk f r
theorem tabOk_nil (f : Nat → Nat → Prop) : tabOk f [] = True := rfl
theorem tabOk_cons (f : Nat → Nat → Prop) (i m : Nat) (r : List (Nat × Nat)) : tabOk f ((i, m) :: r) = (f i m ∧ tabOk f r) := rfl
theorem tabOk_mem {f : Nat → Nat → Prop} : ∀ {tab : List (Nat × Nat)}, tabOk f tab → ∀ x ∈ tab, f x.1 x.2
  | [], _, x, hx => by cases hx
  | (i, m) :: r, h, x, hx => by
    rcases List.mem_cons.1 hx with rfl | hx
    · exact h.1
    · exact tabOk_mem h.2 x hx

def trH (y : Option (List Value × Heap × Value)) (H1 : Heap) : Heap := match y with | some y => y.2.1 | none => H1
theorem trH_some (l : List Value) (H : Heap) (v : Value) (H1 : Heap) : trH (some (l, H, v)) H1 = H := rfl
theorem trH_none (H1 : Heap) : trH none H1 = H1 := rfl
def rdW (P : Program) (ops : Array Oper) (o : Option Oper) (t : Option (List Value × Heap × Value)) (H : Heap) : Prop :=
  match o, t with
  | some o, some (l, _, v) => Region.wanted o (yieldedD ops l) = true → opW P o l H fun v' _ => v' = v
  | _, _ => False
theorem rdOk_eq (os : List Oper) (tr : List (List Value × Heap × Value)) (H1 : Heap) (i m : Nat) : rdOk P os.toArray tr H1 i m = rdW P os.toArray os[i]? tr[i]? (trH tr[m]? H1) := by
  simp [rdOk, rdW, trH]
theorem rdW_some (ops : Array Oper) (d op ty pos af) (l : List Value) (H' : Heap) (v : Value) : rdW P ops (some ⟨d, op, ty, pos, af, none⟩) (some (l, H', v)) H = opW P ⟨d, op, ty, pos, af, none⟩ l H fun v' _ => v' = v := by
  simp [rdW, Region.wanted]

theorem Wp.drwT (hmix : P.follows .mixedOrders = true) {id : Nat} {os : List Oper} {l : List Value} {Q : Out} (tab : List (Nat × Nat)) (htab : drawTab os.toArray = some tab) (hn : tabReads os.toArray tab = true)
    (h : opsTW P os.toArray os [] l H fun tr l1 H1 => Q .normal l1 H1 ∧ tabOk (rdOk P os.toArray tr H1) tab) : Wp P (.region id os.toArray true) l H Q := by
  refine .drawT hmix tab htab hn ?_
  have key : ∀ (os' : List Oper) (tr) (l : List Value) (H : Heap) (K K' : List (List Value × Heap × Value) → List Value → Heap → Prop), (∀ tr l H, K tr l H → K' tr l H) → opsTW P os.toArray os' tr l H K → opsTW P os.toArray os' tr l H K' := by
    intro os'
    induction os' with
    | nil => intro tr l H K K' hk h; exact hk _ _ _ h
    | cons o os' ih =>
      intro tr l H K K' hk h
      unfold opsTW at h ⊢
      split
      · rename_i hw
        rw [if_pos hw] at h
        have mono : ∀ {K1 K2 : Value → Heap → Prop}, (∀ v H1, K1 v H1 → K2 v H1) → opW P o l H K1 → opW P o l H K2 := by
          intro K1 K2 hk12 h1
          obtain ⟨h2, h3⟩ := h1
          refine ⟨h2, ?_⟩
          have bw : ∀ r, bindW r K1 → bindW r K2 := fun r hr => by
            cases r with
            | none => exact hr
            | some r => exact hk12 _ _ hr
          split at h3
          · exact hk12 _ _ h3
          · exact hk12 _ _ h3
          · split at h3
            · unfold callW at h3 ⊢
              split at h3
              · obtain ⟨v, H1, a, b, c⟩ := h3; exact ⟨v, H1, a, b, hk12 _ _ c⟩
              · obtain ⟨v, H1, a, b⟩ := h3; exact ⟨v, H1, a, hk12 _ _ b⟩
              · exact h3
            · exact bw _ h3
          · exact bw _ h3
        exact mono (fun v H1 h => ih _ _ _ _ _ hk h) h
      · rename_i hw
        rw [if_neg hw] at h
        exact ih _ _ _ _ _ hk h
  exact key _ _ _ _ _ _ (fun tr l1 H1 h => ⟨h.1, tabOk_mem h.2⟩) h



theorem Wp.loopN {c : Code} {Q : Out} (I : Nat → List Value → Heap → Prop) {l : List Value} (n : Nat) (h : I n l H) (step : ∀ n l H, I n l H → Wp P c l H (roundQ I n Q)) : Wp P (.loop c) l H Q := Wp.loop I step n h

end
end Go.Ds
/-
  Ds: a heap as a list of rows of our own.
-/
namespace Go.Ds
noncomputable section
/-- What a list of rows of our own is laid over: a heap, and which of its blocks are ours all the same. -/
structure Base where
  H : Heap
  X : Nat → Prop
instance : Coe Heap Base := ⟨fun H => ⟨H, fun _ => False⟩⟩

variable {P : Program} {H0 : Base} {H : Heap}

/-- Something of ours: a variable (size 0) behind a pointer, or a slice with items of a size. -/
structure Ob where
  v : Value
  size : Nat
  cs : List Value

def blk : Value → Option Nat
  | .slice (some a) _ _ => some a.block
  | .pointer (some a) => some a.block
  | _ => none

abbrev ptr (A off n : Nat) : Value := .pointer (some ⟨A, off, some n⟩)

/-- A slice reads as cells. -/
def RdAt (H : Heap) (v : Value) (size : Nat) (cs : List Value) : Prop :=
  (v = .slice none 0 0 ∧ cs = []) ∨ ∃ A i e row ty rw lo ver n, hget H A = some (.cells row ty rw lo ver) ∧ lo ≤ e ∧ e ≤ row.length ∧ i + cs.length ≤ e ∧ (row.drop i).take cs.length = cs ∧
    cs.length = n * size ∧ v = .slice (some ⟨A, i, some e⟩) n size

def OwnAt (P : Program) (H : Heap) (o : Ob) : Prop :=
  if o.size = 0 then ∃ A ty lo ver, hget H A = some (.cells o.cs ty true lo ver) ∧ lo ≤ o.cs.length ∧ o.v = ptr A 0 o.cs.length
  else (o.v = .slice none 0 0 ∧ o.cs = []) ∨ ∃ A i ty lo ver pre n, hget H A = some (.cells (pre ++ o.cs) ty true lo ver) ∧ lo ≤ i + o.cs.length ∧ pre.length = i ∧ o.cs.length = n * o.size ∧
    o.v = .slice (some ⟨A, i, some (i + o.cs.length)⟩) n o.size ∧ sizeP P ty = some o.size

structure St (P : Program) (H0 : Base) (H : Heap) (os : List Ob) : Prop where
  len : H0.H.length ≤ H.length
  old : ∀ B, B < H0.H.length → ¬ H0.X B → hget H B = hget H0.H B
  own : ∀ o ∈ os, OwnAt P H o
  new : ∀ o ∈ os, ∀ B, blk o.v = some B → H0.H.length ≤ B ∨ H0.X B
  sep : os.Pairwise fun o o' => ∀ B, blk o.v = some B → blk o'.v ≠ some B

theorem St.refl (P : Program) (H : Heap) : St P H H [] := ⟨Nat.le_refl _, fun _ _ _ => rfl, by simp, by simp, .nil⟩

theorem RdAt.keep {H' : Heap} {v : Value} {size : Nat} {cs : List Value} (h : RdAt H v size cs) (hk : ∀ B, B < H.length → hget H' B = hget H B) : RdAt H' v size cs := by
  rcases h with h | ⟨A, i, e, row, ty, rw, lo, ver, n, h, h2⟩
  · exact .inl h
  · exact .inr ⟨A, i, e, row, ty, rw, lo, ver, n, by rw [hk A (hget_lt h), h], h2⟩

theorem St.keep {H0 : Heap} {os : List Ob} (h : St P H0 H os) : ∀ B, B < H0.length → hget H B = hget H0 B := fun B hB => h.old B hB (fun h => h)
theorem St.base {H0 : Heap} {os : List Ob} (h : St P H0 H os) {v : Value} {size : Nat} {cs : List Value} (hr : RdAt H0 v size cs) : RdAt H v size cs := hr.keep h.keep

theorem OwnAt.lt {o : Ob} (h : OwnAt P H o) {B : Nat} (hb : blk o.v = some B) : B < H.length := by
  unfold OwnAt at h
  split at h
  · obtain ⟨A, ty, lo, ver, h1, _, h3⟩ := h
    rw [h3] at hb
    simp [blk] at hb
    exact hb ▸ hget_lt h1
  · rcases h with ⟨h1, _⟩ | ⟨A, i, ty, lo, ver, pre, n, h1, _, _, _, h5, _⟩
    · rw [h1] at hb; simp [blk] at hb
    · rw [h5] at hb
      simp [blk] at hb
      exact hb ▸ hget_lt h1

theorem OwnAt.keep {H' : Heap} {o : Ob} (h : OwnAt P H o) (hk : ∀ B, blk o.v = some B → hget H' B = hget H B) : OwnAt P H' o := by
  unfold OwnAt at h ⊢
  split at h
  · rename_i hz
    rw [if_pos hz]
    obtain ⟨A, ty, lo, ver, h1, h2, h3⟩ := h
    exact ⟨A, ty, lo, ver, by rw [hk A (by rw [h3]; rfl), h1], h2, h3⟩
  · rename_i hz
    rw [if_neg hz]
    rcases h with h | ⟨A, i, ty, lo, ver, pre, n, h1, h2, h3, h4, h5, h6⟩
    · exact .inl h
    · exact .inr ⟨A, i, ty, lo, ver, pre, n, by rw [hk A (by rw [h5]; rfl), h1], h2, h3, h4, h5, h6⟩

theorem OwnAt.rd {o : Ob} (h : OwnAt P H o) (hz : o.size ≠ 0) : RdAt H o.v o.size o.cs := by
  unfold OwnAt at h
  rw [if_neg hz] at h
  rcases h with h | ⟨A, i, ty, lo, ver, pre, n, h1, h2, h3, h4, h5, h6⟩
  · exact .inl h
  · refine .inr ⟨A, i, _, _, ty, true, lo, ver, n, h1, h2, by simp [h3], Nat.le_refl _, ?_, h4, h5⟩
    rw [← h3]; simp

theorem St.rd {os : List Ob} (h : St P H0 H os) (i : Nat) {v : Value} {size : Nat} {cs : List Value} (ho : os[i]? = some ⟨v, size + 1, cs⟩) : RdAt H v (size + 1) cs :=
  (h.own _ (List.mem_of_getElem? ho)).rd (Nat.succ_ne_zero _)

/-! ### What types say, in words of their own -/
def sliceSz (P : Program) (t : TypeId) : Option Nat := (sliceElem P t).bind (sizeP P)
def fldOff (P : Program) (s : TypeId) (f : Nat) : Option Nat := (fieldD P s f).bind fun fd => (sizeP P fd.type).bind fun n => if n == 0 then none else some fd.offset

def lenS (o : Option Nat) (P : Program) (H : Heap) (t : TypeId) (v : Value) : Option Value := match o with
  | some _ => (match v with | .slice _ n _ => some (.int .i64 n) | _ => none)
  | none => lenV P H t v
theorem lenV_eq (t : TypeId) (v : Value) : lenV P H t v = lenS (sliceSz P t) P H t v := by
  unfold lenS
  split
  · rename_i n hn
    unfold sliceSz sliceElem at hn
    unfold lenV
    split at hn
    · rename_i e he
      rw [he]
      cases v <;> simp [lenD, goInt]
    · cases hn
  · rfl

def idxS (o : Option Nat) (P : Program) (t : TypeId) (v i : Value) : Option Value := match o with
  | some s => (match v, i with | .slice (some ⟨A, i, some e⟩) n _, .int _ j => if 0 ≤ j && j < n then some (ptr A (i + j.toNat * s) e) else none | _, _ => none)
  | none => idxV P t v i
theorem idxV_eq (t : TypeId) (v i : Value) : idxV P t v i = idxS (sliceSz P t) P t v i := by
  unfold idxS
  split
  · rename_i n hn
    unfold sliceSz sliceElem at hn
    unfold idxV
    split at hn
    · rename_i e he
      simp only [Option.bind_some] at hn
      rw [he]
      cases v with
      | slice a m c =>
        cases a with
        | none => cases i <;> rfl
        | some a =>
          obtain ⟨A, i', s⟩ := a
          cases s with
          | none => cases i <;> rfl
          | some s =>
            cases i with
            | int k j => simp only [hn, Option.bind_some]
            | _ => rfl
      | _ => cases i <;> rfl
    · cases hn
  · rfl

def fldS (o : Option Nat) (v : Value) : Option Value := match o, v with
  | some d, .pointer (some ⟨A, i, some e⟩) => some (ptr A (i + d) e)
  | _, _ => none
theorem fldV_eq (s : TypeId) (f : Nat) (v : Value) : fldV P s f v = fldS (fldOff P s f) v := by
  unfold fldV fldOff
  split
  · cases fieldD P s f with
    | none => rfl
    | some fd =>
      simp only [Option.bind_some]
      cases sizeP P fd.type with
      | none => rfl
      | some n =>
        simp only [Option.bind_some]
        split <;> rfl
  · rename_i h
    unfold fldS
    split
    · exact (h _ _ _ rfl).elim
    · rfl
theorem fldS_ptr (d A i e : Nat) : fldS (some d) (ptr A i e) = some (ptr A (i + d) e) := rfl

/-! ### Reading -/
theorem RdAt.len {v : Value} {size : Nat} {cs : List Value} (h : RdAt H v (size + 1) cs) {n : Nat} (hn : cs.length = n * (size + 1)) (m : Nat) (t : TypeId) : lenS (some m) P H t v = some (.int .i64 n) := by
  have hn' : ∀ m, cs.length = m * (size + 1) → m = n := fun m hm => Nat.eq_of_mul_eq_mul_right (Nat.succ_pos size) (hm.symm.trans hn)
  rcases h with ⟨rfl, rfl⟩ | ⟨A, i, e, row, ty, rw, lo, ver, m, h1, h2, h3, h4, h5, h6, rfl⟩
  · have := hn' 0 (by simp)
    subst this
    rfl
  · have := hn' m h6
    subst this
    rfl

theorem RdAt.idx {v : Value} {size : Nat} {cs : List Value} (h : RdAt H v (size + 1) cs) {n : Nat} (hn : cs.length = n * (size + 1)) (t : TypeId) (k : IntKind) (j : Int)
    (h0 : 0 ≤ j) (h1 : j < n) : idxS (some (size + 1)) P t v (.int k j) = some (elemPtr v (size + 1) j.toNat 0) := by
  have hn' : ∀ m, cs.length = m * (size + 1) → m = n := fun m hm => Nat.eq_of_mul_eq_mul_right (Nat.succ_pos size) (hm.symm.trans hn)
  rcases h with ⟨rfl, rfl⟩ | ⟨A, i, e, row, ty, rw, lo, ver, m, h2, h3, h4, h5, h6, h7, rfl⟩
  · have := hn' 0 (by simp)
    omega
  · have := hn' m h7
    subst this
    simp [idxS, h0, h1, elemPtr]

theorem RdAt.fld {v : Value} {size : Nat} {cs : List Value} (h : RdAt H v (size + 1) cs) (j : Nat) (hj : j * (size + 1) < cs.length) (g d : Nat) : fldS (some d) (elemPtr v (size + 1) j g) = some (elemPtr v (size + 1) j (g + d)) := by
  rcases h with ⟨rfl, rfl⟩ | ⟨A, i, e, row, ty, rw, lo, ver, n, h1, h2, h3, h4, h5, h6, rfl⟩
  · simp at hj
  · simp [fldS, elemPtr, Nat.add_assoc]

theorem RdAt.get {v : Value} {size : Nat} {cs : List Value} (h : RdAt H v size cs) (j f m : Nat) (hk : j * size + f + m ≤ cs.length) (hm : 0 < m) : ∃ A i e, elemPtr v size j f = ptr A i e ∧ cellsAt H A i e m = some ((cs.drop (j * size + f)).take m) := by
  rcases h with ⟨rfl, rfl⟩ | ⟨A, i, e, row, ty, rw, lo, ver, n, h1, h2, h3, h4, h5, h6, rfl⟩
  · simp at hk; omega
  · refine ⟨_, _, _, rfl, ?_⟩
    simp only [cellsAt, h1]
    rw [if_pos (by simp; omega)]
    congr 1
    conv => rhs; rw [← h5]
    rw [List.drop_take, List.take_take, List.drop_drop, Nat.min_eq_left (by omega)]
    simp [Nat.add_assoc]

theorem RdAt.ld {v : Value} {size : Nat} {cs : List Value} (h : RdAt H v size cs) (s : Option Nat) (j f : Nat) (hk : j * size + f < cs.length) : ldW (some false) s H (elemPtr v size j f) = cs[j * size + f]? := by
  obtain ⟨A, i, e, h1, h2⟩ := h.get j f 1 hk (by omega)
  rw [h1]
  simp only [ldW, h2, Option.bind_some]
  rw [List.getElem?_take_of_lt (by omega), List.getElem?_drop]
  simp

theorem RdAt.ldA {v : Value} {size : Nat} {cs : List Value} (h : RdAt H v size cs) (m j f : Nat) (hk : j * size + f + m ≤ cs.length) (hm : 0 < m) : ldW (some true) (some m) H (elemPtr v size j f) = some (.agg ((cs.drop (j * size + f)).take m).toArray) := by
  obtain ⟨A, i, e, h1, h2⟩ := h.get j f m hk hm
  rw [h1]
  simp only [ldW, h2, Option.bind_some, Option.map_some]

/-! Slices of items of one cell. -/
def Sl1 {α : Type} (H : Heap) (v : Value) (mk : α → Value) (xs : List α) : Prop := RdAt H v 1 (xs.map mk)
section
variable {α : Type} {mk : α → Value} {v : Value} {xs : List α}
theorem Sl1.len (h : Sl1 H v mk xs) (m : Nat) (t : TypeId) : lenS (some m) P H t v = some (.int .i64 xs.length) := RdAt.len (size := 0) h (by simp) m t
theorem Sl1.idx (h : Sl1 H v mk xs) (t : TypeId) (k : IntKind) (j : Int) (h0 : 0 ≤ j) (h1 : j < xs.length) : idxS (some 1) P t v (.int k j) = some (elemPtr v 1 j.toNat 0) := RdAt.idx (size := 0) h (by simp) t k j h0 h1
theorem Sl1.ld (h : Sl1 H v mk xs) (d : α) (s : Option Nat) (j : Nat) (hj : j < xs.length) : ldW (some false) s H (elemPtr v 1 j 0) = some (mk (xs.getD j d)) := by
  rw [RdAt.ld h s j 0 (by simpa using hj)]
  simp [List.getD_eq_getElem?_getD, hj]
end

/-! Slices of items of two cells. -/
def Sl2 {α : Type} (H : Heap) (v : Value) (f g : α → Value) (xs : List α) : Prop := RdAt H v 2 (xs.flatMap fun x => [f x, g x])
theorem flat2_length {α : Type} (f g : α → Value) (xs : List α) : (xs.flatMap fun x => [f x, g x]).length = xs.length * 2 := by
  induction xs with
  | nil => rfl
  | cons x xs ih => simp [List.flatMap_cons, ih]; omega
theorem flat2_drop {α : Type} (f g : α → Value) : ∀ (xs : List α) (j : Nat), (xs.flatMap fun x => [f x, g x]).drop (j * 2) = (xs.drop j).flatMap fun x => [f x, g x]
  | [], j => by simp
  | x :: xs, 0 => rfl
  | x :: xs, j + 1 => by
    rw [Nat.succ_mul]
    simp only [List.flatMap_cons, List.cons_append, List.nil_append, List.drop_succ_cons]
    exact flat2_drop f g xs j
section
variable {α : Type} {f g : α → Value} {v : Value} {xs : List α}
theorem Sl2.len (h : Sl2 H v f g xs) (m : Nat) (t : TypeId) : lenS (some m) P H t v = some (.int .i64 xs.length) := RdAt.len (size := 1) h (flat2_length f g xs) m t
theorem Sl2.idx (h : Sl2 H v f g xs) (t : TypeId) (k : IntKind) (j : Int) (h0 : 0 ≤ j) (h1 : j < xs.length) : idxS (some 2) P t v (.int k j) = some (elemPtr v 2 j.toNat 0) := RdAt.idx (size := 1) h (flat2_length f g xs) t k j h0 h1
theorem Sl2.fld (h : Sl2 H v f g xs) (j : Nat) (hj : j < xs.length) (g d : Nat) : fldS (some d) (elemPtr v 2 j g) = some (elemPtr v 2 j (g + d)) := RdAt.fld (size := 1) h j (by rw [flat2_length]; omega) g d
theorem Sl2.drop (j : Nat) (hj : j < xs.length) (d : α) : (xs.flatMap fun x => [f x, g x]).drop (j * 2) = f (xs.getD j d) :: g (xs.getD j d) :: ((xs.drop (j + 1)).flatMap fun x => [f x, g x]) := by
  rw [flat2_drop, List.drop_eq_getElem_cons hj]
  have e : xs.getD j d = xs[j] := by simp [List.getD_eq_getElem?_getD, hj]
  rw [e]
  rfl
theorem Sl2.ld0 (h : Sl2 H v f g xs) (d : α) (s : Option Nat) (j : Nat) (hj : j < xs.length) : ldW (some false) s H (elemPtr v 2 j 0) = some (f (xs.getD j d)) := by
  rw [RdAt.ld h s j 0 (by rw [flat2_length]; omega)]
  have := Sl2.drop (f := f) (g := g) j hj d
  have h2 : ((xs.flatMap fun x => [f x, g x]).drop (j * 2))[0]? = some (f (xs.getD j d)) := by rw [this]; rfl
  rwa [List.getElem?_drop] at h2
theorem Sl2.ld1 (h : Sl2 H v f g xs) (d : α) (s : Option Nat) (j : Nat) (hj : j < xs.length) : ldW (some false) s H (elemPtr v 2 j 1) = some (g (xs.getD j d)) := by
  rw [RdAt.ld h s j 1 (by rw [flat2_length]; omega)]
  have := Sl2.drop (f := f) (g := g) j hj d
  have h2 : ((xs.flatMap fun x => [f x, g x]).drop (j * 2))[1]? = some (g (xs.getD j d)) := by rw [this]; rfl
  rwa [List.getElem?_drop] at h2
theorem Sl2.ldA (h : Sl2 H v f g xs) (d : α) (j : Nat) (hj : j < xs.length) : ldW (some true) (some 2) H (elemPtr v 2 j 0) = some (.agg #[f (xs.getD j d), g (xs.getD j d)]) := by
  rw [RdAt.ldA h 2 j 0 (by rw [flat2_length]; omega) (by omega)]
  have := Sl2.drop (f := f) (g := g) j hj d
  rw [Nat.add_zero, this]
  rfl
end

/-! Variables. -/
theorem St.cell {os : List Ob} (hS : St P H0 H os) (i : Nat) {A n : Nat} {cs : List Value} (ho : os[i]? = some ⟨ptr A 0 n, 0, cs⟩) : n = cs.length ∧ ∃ ty lo ver, hget H A = some (.cells cs ty true lo ver) ∧ lo ≤ cs.length := by
  have := hS.own _ (List.mem_of_getElem? ho)
  unfold OwnAt at this
  rw [if_pos rfl] at this
  obtain ⟨A', ty, lo, ver, h1, h2, h3⟩ := this
  simp only [ptr, Value.pointer.injEq, Option.some.injEq, Addr.mk.injEq, true_and] at h3
  obtain ⟨rfl, rfl⟩ := h3
  exact ⟨rfl, ty, lo, ver, h1, h2⟩

theorem St.ld {os : List Ob} (hS : St P H0 H os) (i : Nat) {A n : Nat} {cs : List Value} (ho : os[i]? = some ⟨ptr A 0 n, 0, cs⟩) (s : Option Nat) (off : Nat) : ldW (some false) s H (ptr A off n) = cs[off]? := by
  obtain ⟨rfl, ty, lo, ver, h1, h2⟩ := hS.cell i ho
  simp only [ldW, cellsAt, h1]
  by_cases h : off < cs.length
  · rw [if_pos (by simp; omega)]
    simp only [Option.bind_some]
    rw [List.getElem?_take_of_lt (by omega), List.getElem?_drop]
    simp
  · rw [if_neg (by simp; omega), List.getElem?_eq_none (by omega)]
    rfl

theorem St.ldA {os : List Ob} (hS : St P H0 H os) (i : Nat) {A n : Nat} {cs : List Value} (ho : os[i]? = some ⟨ptr A 0 n, 0, cs⟩) (m off : Nat) : ldW (some true) (some m) H (ptr A off n) = if off + m ≤ cs.length then some (.agg ((cs.drop off).take m).toArray) else none := by
  obtain ⟨rfl, ty, lo, ver, h1, h2⟩ := hS.cell i ho
  simp only [ldW, cellsAt, h1, Option.bind_some]
  by_cases h : off + m ≤ cs.length
  · rw [if_pos (by simp; omega), if_pos h]
    rfl
  · rw [if_neg (by simp; omega), if_neg h]
    rfl

/-! ### Writing -/
/-- One of ours is changed, or moves to a new row. -/
theorem St.put {H1 : Heap} {os : List Ob} (hS : St P H0 H os) (i : Nat) {o o' : Ob} (ho : os[i]? = some o) (hown : OwnAt P H1 o') (hlen : H.length ≤ H1.length) (hk : ∀ B, B < H.length → blk o.v ≠ some B → hget H1 B = hget H B)
    (hb : ∀ B, blk o'.v = some B → blk o.v = some B ∨ H.length ≤ B) : St P H0 H1 (os.set i o') := by
  have hi : i < os.length := (List.getElem?_eq_some_iff.1 ho).1
  have hoi : os[i] = o := (List.getElem?_eq_some_iff.1 ho).2
  have hpw := List.pairwise_iff_getElem.1 hS.sep
  have hne : ∀ j (hj : j < os.length), j ≠ i → ∀ B, blk os[j].v = some B → blk o.v ≠ some B := by
    intro j hj hji B hB hB2
    rcases Nat.lt_or_gt_of_ne hji with h | h
    · exact hpw j i hj hi h B hB (hoi ▸ hB2)
    · exact hpw i j hi hj h B (hoi ▸ hB2) hB
  have ho0 : ∀ B, blk o.v = some B → H0.H.length ≤ B ∨ H0.X B := hS.new o (List.mem_of_getElem? ho)
  refine ⟨Nat.le_trans hS.len hlen, ?_, ?_, ?_, ?_⟩
  · intro B hB hX
    rw [hk B (Nat.lt_of_lt_of_le hB hS.len) (fun h => by
      rcases ho0 B h with h | h
      · omega
      · exact hX h), hS.old B hB hX]
  · intro x hx
    rw [List.mem_iff_getElem] at hx
    obtain ⟨j, hj, rfl⟩ := hx
    rw [List.length_set] at hj
    rw [List.getElem_set]
    split
    · exact hown
    · rename_i hij
      have hox : OwnAt P H os[j] := hS.own _ (List.getElem_mem hj)
      exact hox.keep fun B hB => hk B (hox.lt hB) (hne j hj (fun h => hij h.symm) B hB)
  · intro x hx B hB
    rw [List.mem_iff_getElem] at hx
    obtain ⟨j, hj, rfl⟩ := hx
    rw [List.length_set] at hj
    rw [List.getElem_set] at hB
    split at hB
    · rcases hb B hB with h | h
      · exact ho0 B h
      · exact .inl (Nat.le_trans hS.len h)
    · exact hS.new _ (List.getElem_mem hj) B hB
  · rw [List.pairwise_iff_getElem]
    intro j k hj hk' hjk B
    rw [List.length_set] at hj hk'
    rw [List.getElem_set, List.getElem_set]
    have hlt : ∀ j (hj : j < os.length) B, blk os[j].v = some B → B < H.length := fun j hj B hB => (hS.own _ (List.getElem_mem hj)).lt hB
    split
    · rename_i hij
      split
      · omega
      · intro h1 h2
        rcases hb B h1 with h | h
        · exact hne k hk' (by omega) B h2 h
        · have := hlt k hk' B h2; omega
    · rename_i hij
      split
      · intro h1 h2
        rcases hb B h2 with h | h
        · exact hne j hj (by omega) B h1 h
        · have := hlt j hj B h1; omega
      · exact hpw j k hj hk' hjk B

/-- A new one. -/
theorem St.add {H1 : Heap} {os : List Ob} (hS : St P H0 H os) {o : Ob} (hown : OwnAt P H1 o) (hlen : H.length ≤ H1.length) (hk : ∀ B, B < H.length → hget H1 B = hget H B) (hb : ∀ B, blk o.v = some B → H.length ≤ B) : St P H0 H1 (os ++ [o]) := by
  refine ⟨Nat.le_trans hS.len hlen, fun B hB hX => by rw [hk B (Nat.lt_of_lt_of_le hB hS.len), hS.old B hB hX], ?_, ?_, ?_⟩
  · intro x hx
    rcases List.mem_append.1 hx with hx | hx
    · exact (hS.own x hx).keep fun B hB => hk B ((hS.own x hx).lt hB)
    · obtain rfl := List.mem_singleton.1 hx
      exact hown
  · intro x hx B hB
    rcases List.mem_append.1 hx with hx | hx
    · exact hS.new x hx B hB
    · obtain rfl := List.mem_singleton.1 hx
      exact .inl (Nat.le_trans hS.len (hb B hB))
  · rw [List.pairwise_append]
    refine ⟨hS.sep, List.pairwise_singleton _ _, fun x hx y hy B h1 h2 => ?_⟩
    obtain rfl := List.mem_singleton.1 hy
    have := (hS.own x hx).lt h1
    have := hb B h2
    omega

/-- What a call leaves. -/
theorem St.trans {H1 : Heap} {os os1 : List Ob} (hS : St P H0 H os) (h1 : St P H H1 os1) : St P H0 H1 (os ++ os1) := by
  refine ⟨Nat.le_trans hS.len h1.len, fun B hB hX => by rw [h1.keep B (Nat.lt_of_lt_of_le hB hS.len), hS.old B hB hX], ?_, ?_, ?_⟩
  · intro x hx
    rcases List.mem_append.1 hx with hx | hx
    · exact (hS.own x hx).keep fun B hB => h1.keep B ((hS.own x hx).lt hB)
    · exact h1.own x hx
  · intro x hx B hB
    rcases List.mem_append.1 hx with hx | hx
    · exact hS.new x hx B hB
    · rcases h1.new x hx B hB with h | h
      · exact .inl (Nat.le_trans hS.len h)
      · exact h.elim
  · rw [List.pairwise_append]
    refine ⟨hS.sep, h1.sep, fun x hx y hy B e1 e2 => ?_⟩
    have := (hS.own x hx).lt e1
    rcases h1.new y hy B e2 with h | h
    · have h : H.length ≤ B := h
      omega
    · exact h.elim

/-- The blocks of ours. -/
def blksOf (os : List Ob) : Nat → Prop := fun A => ∃ o ∈ os, blk o.v = some A

/-- On from here, with what is ours. -/
theorem St.rebase {os : List Ob} (hS : St P H0 H os) : St P ⟨H, blksOf os⟩ H os :=
  ⟨Nat.le_refl _, fun _ _ _ => rfl, hS.own, fun o ho B hB => .inr ⟨o, ho, hB⟩, hS.sep⟩

theorem St.unbase {H1 : Heap} {os os1 : List Ob} (hS : St P H0 H os) (h1 : St P ⟨H, blksOf os⟩ H1 os1) : St P H0 H1 os1 := by
  refine ⟨Nat.le_trans hS.len h1.len, ?_, h1.own, ?_, h1.sep⟩
  · intro B hB hX
    rw [h1.old B (Nat.lt_of_lt_of_le hB hS.len) ?_, hS.old B hB hX]
    rintro ⟨o, ho, hb⟩
    rcases hS.new o ho B hb with h | h
    · omega
    · exact hX h
  · intro o ho B hB
    rcases h1.new o ho B hB with h | ⟨o', ho', hb⟩
    · exact .inl (Nat.le_trans hS.len h)
    · exact hS.new o' ho' B hb

/-- What is no block of ours stays. -/
theorem St.other {H1 : Heap} {os os1 : List Ob} (h1 : St P ⟨H, blksOf os⟩ H1 os1) {L : Nat} (hL : L < H.length) (hn : ∀ o ∈ os, blk o.v ≠ some L) : hget H1 L = hget H L :=
  h1.old L hL fun ⟨o, ho, hb⟩ => hn o ho hb

theorem St.sub {os os' : List Ob} (hS : St P H0 H os) (h : os'.Sublist os) : St P H0 H os' :=
  ⟨hS.len, hS.old, fun o ho => hS.own o (h.subset ho), fun o ho => hS.new o (h.subset ho), hS.sep.sublist h⟩

/-- What is of ours from some heap on is what is there. -/
theorem St.forget {os : List Ob} (hS : St P H0 H os) : St P H0 H [] := hS.sub (List.nil_sublist _)

theorem OwnAt.nil (size : Nat) : OwnAt P H ⟨.slice none 0 0, size + 1, []⟩ := by
  unfold OwnAt
  rw [if_neg (Nat.succ_ne_zero _)]
  exact .inl ⟨rfl, rfl⟩

theorem St.nil {os : List Ob} (hS : St P H0 H os) (size : Nat) : St P H0 H (os ++ [⟨.slice none 0 0, size + 1, []⟩]) :=
  hS.add (.nil size) (Nat.le_refl _) (fun _ _ => rfl) (fun B hB => by simp [blk] at hB)

end
end Go.Ds
/-
  Ds: what operations do to a heap that is a list of rows of our own.
-/
namespace Go.Ds
noncomputable section
variable {P : Program} {H0 : Base} {H : Heap} {os : List Ob}

theorem setMany_length : ∀ (vs cs : List Value) (i : Nat), (setMany cs i vs).length = cs.length
  | [], _, _ => rfl
  | v :: vs, cs, i => by rw [setMany, setMany_length vs, setL_eq, List.length_set]

theorem setMany_append : ∀ (vs pre cs : List Value) (i : Nat), setMany (pre ++ cs) (pre.length + i) vs = pre ++ setMany cs i vs
  | [], _, _, _ => rfl
  | v :: vs, pre, cs, i => by
    rw [setMany, setMany, setL_eq, setL_eq, List.set_append_right _ _ (by omega), Nat.add_sub_cancel_left, Nat.add_assoc]
    exact setMany_append vs pre _ _

theorem setMany_cons (cs : List Value) (i : Nat) (v : Value) (vs : List Value) : setMany cs i (v :: vs) = setMany (cs.set i v) (i + 1) vs := by rw [setMany, setL_eq]
theorem setMany_nil (cs : List Value) (i : Nat) : setMany cs i [] = cs := rfl

theorem hset_old {A B : Nat} {b : Blk} (h : A ≠ B) : hget (hset H A b) B = hget H B := hget_hset_ne b h

theorem St.eNew (hS : St P H0 H os) {t : TypeId} {v : Value} (n : Nat) (cs : List Value) {K : Value → Heap → Prop} (hc : v.cells.toList = cs) (hn : cs.length = n) (h1 : cs.all oneCell = true) (hs : sizeP P t = some n)
    (h : ∀ A H1, St P H0 H1 (os ++ [⟨ptr A 0 n, 0, cs⟩]) → K (ptr A 0 n) H1) : newW P H t v K := by
  subst hn
  refine ⟨ptr H.length 0 cs.length, H.cons (.cells cs t true cs.length 0), ?_, h _ _ (hS.add ?_ ?_ ?_ ?_)⟩
  · simp only [newD, hc, h1, hs, BEq.rfl, Bool.and_self, if_true, rowD_eq]
  · unfold OwnAt
    rw [if_pos rfl]
    exact ⟨_, t, _, 0, hget_cons_new H _, Nat.le_refl _, rfl⟩
  · simp [cons_eq]
  · exact fun B hB => hget_cons_old _ hB
  · intro B hB
    simp [blk] at hB
    omega

theorem St.eStore (hS : St P H0 H os) (i : Nat) {A n : Nat} {cs : List Value} (ho : os[i]? = some ⟨ptr A 0 n, 0, cs⟩) {off : Nat} {t : TypeId} {v : Value} {K : Heap → Prop} (vs : List Value) (hc : v.cells.toList = vs) (h1 : vs.all oneCell = true)
    (hs : sizeP P t = some vs.length) (hoff : off + vs.length ≤ cs.length) (h : ∀ H1, St P H0 H1 (os.set i ⟨ptr A 0 n, 0, setMany cs off vs⟩) → K H1) : storeW P H t (ptr A off n) v K := by
  obtain ⟨rfl, ty, lo, ver, h2, h3⟩ := hS.cell i ho
  refine ⟨hset H A (.cells (setMany cs off vs) ty true cs.length (ver + 1)), ?_, h _ (hS.put i ho ?_ ?_ ?_ ?_)⟩
  · simp only [storeD, h2, hc]
    rw [if_pos ⟨hs, h1, by trivial, hoff, h3⟩]
  · unfold OwnAt
    rw [if_pos rfl]
    refine ⟨A, ty, _, _, hget_hset_same _ (hget_lt h2), ?_, ?_⟩
    · simp [setMany_length]
    · simp [setMany_length]
  · rw [length_hset]; exact Nat.le_refl _
  · intro B hB hne
    refine hset_old fun hh => hne ?_
    simp [blk, hh]
  · intro B hB
    exact .inl hB

theorem St.eStoreE (hS : St P H0 H os) (i : Nat) {s : Value} {size : Nat} {cs : List Value} (ho : os[i]? = some ⟨s, size + 1, cs⟩) {j f : Nat} {t : TypeId} {v : Value} {K : Heap → Prop} (vs : List Value) (hc : v.cells.toList = vs) (h1 : vs.all oneCell = true)
    (hs : sizeP P t = some vs.length) (h0 : 0 < vs.length) (hoff : j * (size + 1) + f + vs.length ≤ cs.length) (h : ∀ H1, St P H0 H1 (os.set i ⟨s, size + 1, setMany cs (j * (size + 1) + f) vs⟩) → K H1) : storeW P H t (elemPtr s (size + 1) j f) v K := by
  have hown := hS.own _ (List.mem_of_getElem? ho)
  unfold OwnAt at hown
  rw [if_neg (Nat.succ_ne_zero _)] at hown
  rcases hown with ⟨h2, h3⟩ | ⟨A, k, ty, lo, ver, pre, n, h2, h3, h4, h5, h6, h7⟩
  · simp only at h3; subst h3; simp only [List.length_nil] at hoff; omega
  · simp only at h2 h3 h5 h6
    refine ⟨hset H A (.cells (setMany (pre ++ cs) (k + j * (size + 1) + f) vs) ty true (pre ++ cs).length (ver + 1)), ?_, h _ (hS.put i ho ?_ ?_ ?_ ?_)⟩
    · simp only [storeD, elemPtr, h6, h2, hc]
      rw [if_pos ⟨hs, h1, by simp [h4], by omega, h3⟩]
    · unfold OwnAt
      rw [if_neg (Nat.succ_ne_zero _)]
      refine .inr ⟨A, k, ty, (pre ++ cs).length, ver + 1, pre, n, ?_, ?_, h4, ?_, ?_, h7⟩
      · rw [hget_hset_same _ (hget_lt h2), ← h4, Nat.add_assoc, setMany_append]
      · simp [setMany_length, h4]
      · simp only [setMany_length]; exact h5
      · simp only [setMany_length]; exact h6
    · rw [length_hset]; exact Nat.le_refl _
    · intro B hB hne
      refine hset_old fun hh => hne ?_
      simp [blk, h6, hh]
    · intro B hB
      exact .inl hB

/-- What appending asks of a type: the size of its items, and their bytes. -/
def appOk (P : Program) (t : TypeId) : Option (Nat × Nat) :=
  (sliceElem P t).bind fun elem => (sizeP P elem).bind fun size => (bytesP P elem).bind fun bytes => (zeroP P elem).bind fun z => if z.cells.size == size then some (size, bytes) else none

theorem RdAt.src {x : Value} {size : Nat} {ys : List Value} (h : RdAt H x (size + 1) ys) : ∃ n, ys.length = n * (size + 1) ∧ srcNew H (size + 1) x = some (n, ys) := by
  rcases h with ⟨rfl, rfl⟩ | ⟨A, i, e, row, ty, rw, lo, ver, n, h1, h2, h3, h4, h5, h6, rfl⟩
  · exact ⟨0, by simp, rfl⟩
  · refine ⟨n, h6, ?_⟩
    simp only [srcNew, cellsAt, h1]
    rw [← h6, if_pos (by simp; omega), h5]
    rfl

theorem St.eAppend (hS : St P H0 H os) (i : Nat) {s : Value} {size : Nat} {cs : List Value} (ho : os[i]? = some ⟨s, size + 1, cs⟩) {x : Value} {ys : List Value} (hx : RdAt H x (size + 1) ys) {t : TypeId} {bytes : Nat} {K : Value → Heap → Prop}
    (ha : appOk P t = some (size + 1, bytes)) (hroom : (cs.length + ys.length) * (bytes + 1) ≤ 17592186044416) (h : ∀ v H1, St P H0 H1 (os.set i ⟨v, size + 1, cs ++ ys⟩) → K v H1) : appendW P H t s x K := by
  unfold appOk at ha
  cases he : sliceElem P t with
  | none => rw [he] at ha; cases ha
  | some elem =>
  rw [he] at ha
  simp only [Option.bind_some] at ha
  cases hsz : sizeP P elem with
  | none => rw [hsz] at ha; cases ha
  | some sz =>
  rw [hsz] at ha
  simp only [Option.bind_some] at ha
  cases hby : bytesP P elem with
  | none => rw [hby] at ha; cases ha
  | some by' =>
  rw [hby] at ha
  simp only [Option.bind_some] at ha
  cases hz : zeroP P elem with
  | none => rw [hz] at ha; cases ha
  | some z =>
  rw [hz] at ha
  simp only [Option.bind_some] at ha
  split at ha
  case isFalse => cases ha
  rename_i hzs
  simp only [Option.some.injEq, Prod.mk.injEq] at ha
  obtain ⟨rfl, rfl⟩ := ha
  obtain ⟨n, hn, hsrc⟩ := hx.src
  have hn' : n ≤ ys.length := by rw [hn]; exact Nat.le_mul_of_pos_right n (Nat.succ_pos size)
  have hown := hS.own _ (List.mem_of_getElem? ho)
  unfold OwnAt at hown
  rw [if_neg (Nat.succ_ne_zero _)] at hown
  rcases hown with ⟨h2, h3⟩ | ⟨A, k, ty, lo, ver, pre, m, h2, h3, h4, h5, h6, h7⟩
  · simp only at h2 h3
    subst h2 h3
    by_cases h0 : n = 0
    · subst h0
      have hys : ys = [] := List.eq_nil_of_length_eq_zero (by omega)
      subst hys
      refine ⟨.slice none 0 0, H, ?_, h _ _ ?_⟩
      · simp only [appendD, he, hsz, hby, hz, Option.bind_some, hsrc]
        simp [hzs, roomD]
      · obtain ⟨hi, hoi⟩ := List.getElem?_eq_some_iff.1 ho
        have e : os.set i ⟨.slice none 0 0, size + 1, [] ++ []⟩ = os := by
          rw [List.append_nil, ← hoi, List.set_getElem_self]
        rw [e]
        exact hS
    · refine ⟨_, H.cons (.cells ys elem true ys.length 0), ?_, h (.slice (some ⟨H.length, 0, some ys.length⟩) n (size + 1)) _ (hS.put i ho ?_ ?_ ?_ ?_)⟩
      · simp only [appendD, he, hsz, hby, hz, Option.bind_some, hsrc]
        have hr : n * (by' + 1) ≤ roomD := by
          refine Nat.le_trans (Nat.mul_le_mul_right _ ?_) hroom
          omega
        simp [hzs, hr, h0, rowD_eq]
      · unfold OwnAt
        rw [if_neg (Nat.succ_ne_zero _)]
        exact .inr ⟨_, 0, elem, _, 0, [], n, hget_cons_new H _, by simp, rfl, by simpa using hn, by simp, hsz⟩
      · simp [cons_eq]
      · exact fun B hB _ => hget_cons_old _ hB
      · intro B hB
        simp [blk] at hB
        omega
  · simp only at h2 h3 h5 h6
    refine ⟨_, hset H A (.cells (pre ++ cs ++ ys) ty true lo ver), ?_, h (.slice (some ⟨A, k, some (k + cs.length + ys.length)⟩) (m + n) (size + 1)) _ (hS.put i ho ?_ ?_ ?_ ?_)⟩
    · have hr : (m + n) * (by' + 1) ≤ roomD := by
        refine Nat.le_trans (Nat.mul_le_mul_right _ ?_) hroom
        have : m ≤ cs.length := by rw [h5]; exact Nat.le_mul_of_pos_right m (Nat.succ_pos size)
        omega
      simp only [appendD, he, hsz, hby, hz, Option.bind_some, hsrc, h6, h2]
      rw [if_pos]
      · simp [appL_eq]
      · have h3' : lo ≤ k + m * (size + 1) := by rw [← h5]; exact h3
        simp [hr, hzs, h7, h4, h3', h5]
    · unfold OwnAt
      rw [if_neg (Nat.succ_ne_zero _)]
      refine .inr ⟨A, k, ty, lo, ver, pre, m + n, ?_, ?_, h4, ?_, ?_, h7⟩
      · rw [hget_hset_same _ (hget_lt h2), List.append_assoc]
      · simp; omega
      · simp [Nat.add_mul, h5, hn]
      · simp [Nat.add_assoc]
    · rw [length_hset]; exact Nat.le_refl _
    · intro B hB hne
      refine hset_old fun hh => hne ?_
      simp [blk, h6, hh]
    · intro B hB
      simp [blk] at hB
      left
      simp [blk, h6, hB]


/-! A slice out of its items. -/
theorem foldl_set (off : Nat) : ∀ (vs : List Value) (k : Nat) (a : Array Value), ((vs.zipIdx k).foldl (fun cs (x : Value × Nat) => cs.setIfInBounds (off + x.2) x.1) a).toList = setMany a.toList (off + k) vs
  | [], _, _ => rfl
  | v :: vs, k, a => by
    rw [List.zipIdx_cons, List.foldl_cons, foldl_set off vs (k + 1), setMany_cons]
    simp [Nat.add_assoc]

theorem setMany_over : ∀ (vs pre rest : List Value), vs.length ≤ rest.length → setMany (pre ++ rest) pre.length vs = pre ++ vs ++ rest.drop vs.length
  | [], pre, rest, _ => by simp [setMany]
  | v :: vs, pre, [], h => by simp at h
  | v :: vs, pre, r :: rest, h => by
    rw [setMany_cons, List.set_append_right _ _ (Nat.le_refl _), Nat.sub_self, List.set_cons_zero]
    have := setMany_over vs (pre ++ [v]) rest (by simpa using h)
    simp only [List.append_assoc, List.cons_append, List.nil_append, List.length_append, List.length_cons, List.length_nil, Nat.zero_add] at this
    simpa using this

theorem fill_over (size : Nat) : ∀ (ps : List (Nat × Value)) (k : Nat) (pre rest : List Value), pre.length = k * size → rest.length = ps.length * size → ps.map (·.1) = List.range' k ps.length → (∀ p ∈ ps, p.2.cells.size = size) →
    Instr.fill (fun i => some (i * size, size)) (pre ++ rest).toArray ps = some (pre ++ ps.flatMap fun p => p.2.cells.toList).toArray
  | [], k, pre, rest, _, h2, _, _ => by
    have : rest = [] := List.eq_nil_of_length_eq_zero (by simpa using h2)
    subst this
    simp [Instr.fill]
  | (i, v) :: ps, k, pre, rest, h1, h2, h3, h4 => by
    simp only [List.map_cons, List.length_cons, List.range'_succ, List.cons.injEq] at h3
    obtain ⟨rfl, h3⟩ := h3
    have hv : v.cells.size = size := h4 (i, v) (List.mem_cons_self ..)
    have hrl : v.cells.toList.length ≤ rest.length := by
      rw [h2]; simp [hv, Nat.add_mul]
    simp only [Instr.fill]
    rw [if_neg (by
      simp only [hv, ne_eq, not_true_eq_false, decide_false, Bool.false_or, List.size_toArray, List.length_append, h1, h2, List.length_cons, Nat.add_mul]
      simp)]
    have e : (v.cells.zipIdx.foldl (fun cs x => cs.setIfInBounds (i * size + x.2) x.1) (pre ++ rest).toArray) = (pre ++ v.cells.toList ++ rest.drop v.cells.toList.length).toArray := by
      apply Array.toList_inj.1
      rw [← Array.foldl_toList, Array.toList_zipIdx, foldl_set, Nat.add_zero, ← h1, setMany_over _ _ _ hrl]
    have e' : (v.cells.zipIdx.foldl (fun cs (c, j) => cs.setIfInBounds (i * size + j) c) (pre ++ rest).toArray) = (pre ++ v.cells.toList ++ rest.drop v.cells.toList.length).toArray := e
    rw [e', fill_over size ps (i + 1) (pre ++ v.cells.toList) _ (by simp [h1, hv, Nat.add_mul]) (by simp [h2, hv, Nat.add_mul]) h3 (fun p hp => h4 p (List.mem_cons_of_mem _ hp))]
    simp

theorem St.eSlice (hS : St P H0 H os) {t : TypeId} {len : Nat} {ps : List (Nat × Value)} {size bytes : Nat} (cs : List Value) {K : Value → Heap → Prop} (ha : appOk P t = some (size + 1, bytes)) (hz : ((sliceElem P t).bind (zeroP P)).any flat1 = true)
    (hp : ps.map (·.1) = List.range' 0 ps.length) (hl : len = ps.length) (hsz : ∀ p ∈ ps, p.2.cells.size = size + 1) (hcs : ps.flatMap (fun p => p.2.cells.toList) = cs) (h1 : cs.all oneCell = true) (h0 : len * (size + 1) ≤ 16777216) (hne : len ≠ 0)
    (h : ∀ v H1, St P H0 H1 (os ++ [⟨v, size + 1, cs⟩]) → K v H1) : sliceOfW P H t len ps K := by
  subst hl
  unfold appOk at ha
  cases he : sliceElem P t with
  | none => rw [he] at ha; cases ha
  | some elem =>
  rw [he] at ha hz
  simp only [Option.bind_some] at ha hz
  cases hsz2 : sizeP P elem with
  | none => rw [hsz2] at ha; cases ha
  | some sz =>
  rw [hsz2] at ha
  simp only [Option.bind_some] at ha
  cases hby : bytesP P elem with
  | none => rw [hby] at ha; cases ha
  | some by' =>
  rw [hby] at ha
  simp only [Option.bind_some] at ha
  cases hz2 : zeroP P elem with
  | none => rw [hz2] at ha; cases ha
  | some z =>
  rw [hz2] at ha hz
  simp only [Option.bind_some, Option.any_some] at ha hz
  split at ha
  case isFalse => cases ha
  rename_i hzs
  simp only [Option.some.injEq, Prod.mk.injEq] at ha
  obtain ⟨rfl, rfl⟩ := ha
  have hlen : cs.length = ps.length * (size + 1) := by
    rw [← hcs, List.length_flatMap]
    have : ps.map (fun p => p.2.cells.toList.length) = ps.map (fun _ => size + 1) := List.map_congr_left fun p hp => by simpa using hsz p hp
    rw [this, List.map_const']
    simp
  have hall : ps.all (fun x => x.2.cells.toList.all oneCell) = true := by
    rw [← hcs] at h1
    rw [List.all_flatMap] at h1
    exact h1
  refine ⟨.slice (some ⟨H.length, 0, some cs.length⟩) ps.length (size + 1), H.cons (.cells cs elem true cs.length 0), ?_, h _ _ (hS.add ?_ ?_ ?_ ?_)⟩
  · unfold sliceOfD
    simp only [he, hsz2, hz2, Option.bind_some]
    rw [if_pos (by
      simp only [hz, hall, hzs, Bool.and_true, Bool.true_and, Bool.and_eq_true, decide_eq_true_eq, bne_iff_ne, ne_eq]
      exact ⟨h0, Nat.mul_ne_zero hne (Nat.succ_ne_zero _)⟩)]
    have hf := fill_over (size + 1) ps 0 [] ((Array.range (ps.length * (size + 1))).map (z.cells[· % z.cells.size]!)).toList (by simp) (by simp) hp hsz
    simp only [List.nil_append, Array.toArray_toList] at hf
    rw [hf, hcs]
    simp [rowD_eq]
  · unfold OwnAt
    rw [if_neg (Nat.succ_ne_zero _)]
    exact .inr ⟨_, 0, elem, _, 0, [], ps.length, hget_cons_new H _, by simp, rfl, hlen, by simp, hsz2⟩
  · simp [cons_eq]
  · exact fun B hB => hget_cons_old _ hB
  · intro B hB
    simp [blk] at hB
    omega

/-- What making a slice asks of a type whose items are of one cell. -/
def mkOk (P : Program) (t : TypeId) : Option (Nat × Value) :=
  (sliceElem P t).bind fun elem => (sizeP P elem).bind fun size => (bytesP P elem).bind fun bytes => (zeroP P elem).bind fun z => if size == 1 && z.cells.size == 1 && flat1 z then some (bytes, z.cells[0]!) else none

theorem St.eMake1 (hS : St P H0 H os) {t : TypeId} {bytes : Nat} {z : Value} {K : Value → Heap → Prop} (a : Nat) (ha : mkOk P t = some (bytes, z)) (hroom : a * (bytes + 1) ≤ 17592186044416)
    (h : ∀ v H1, St P H0 H1 (os ++ [⟨v, 1, List.replicate a z⟩]) → K v H1) : makeSliceW P H t (.int .i64 a) (.int .i64 a) K := by
  unfold mkOk at ha
  cases he : sliceElem P t with
  | none => rw [he] at ha; cases ha
  | some elem =>
  rw [he] at ha
  simp only [Option.bind_some] at ha
  cases hsz2 : sizeP P elem with
  | none => rw [hsz2] at ha; cases ha
  | some sz =>
  rw [hsz2] at ha
  simp only [Option.bind_some] at ha
  cases hby : bytesP P elem with
  | none => rw [hby] at ha; cases ha
  | some by' =>
  rw [hby] at ha
  simp only [Option.bind_some] at ha
  cases hz2 : zeroP P elem with
  | none => rw [hz2] at ha; cases ha
  | some z' =>
  rw [hz2] at ha
  simp only [Option.bind_some] at ha
  split at ha
  case isFalse => cases ha
  rename_i hzs
  simp only [Bool.and_eq_true, beq_iff_eq] at hzs
  obtain ⟨⟨rfl, hz1⟩, hfl⟩ := hzs
  simp only [Option.some.injEq, Prod.mk.injEq] at ha
  obtain ⟨rfl, rfl⟩ := ha
  refine ⟨.slice (some ⟨H.length, 0, some a⟩) a 1, H.cons (.cells (List.replicate a z'.cells[0]!) elem true a 0), ?_, h _ _ (hS.add ?_ ?_ ?_ ?_)⟩
  · unfold makeSliceD
    simp only [he, hsz2, hby, hz2, Option.bind_some]
    rw [if_pos]
    · simp [rowD_eq]
    · have : (a : Int) * (by' + 1) ≤ (roomD : Int) := by
        have h3 : ((a * (by' + 1) : Nat) : Int) ≤ ((17592186044416 : Nat) : Int) := Int.ofNat_le.2 hroom
        simpa [roomD] using h3
      simp [hfl, hz1, this]
  · unfold OwnAt
    rw [if_neg (by simp)]
    exact .inr ⟨_, 0, elem, _, 0, [], a, hget_cons_new H _, by simp, rfl, by simp, by simp, hsz2⟩
  · simp [cons_eq]
  · exact fun B hB => hget_cons_old _ hB
  · intro B hB
    simp [blk] at hB
    omega

/-! ### Calls -/
/-- A function may be called, and its call gives what R tells. -/
def Fn (P : Program) (k : FuncId) (args : List Value) (H : Heap) (R : Value → Heap → Prop) : Prop := Entered P k ∧ ∃ v H1, CallOk P k args H v H1 ∧ R v H1

theorem callFW_of {k : FuncId} {args : List Value} {R K : Value → Heap → Prop} (h : Fn P k args H R) (hk : ∀ v H1, R v H1 → K v H1) : callFW P k args H K := by
  obtain ⟨h1, v, H1, h2, h3⟩ := h
  exact ⟨v, H1, h1, h2, hk v H1 h3⟩

/-- What a body owes at its end. -/
def endQ (P : Program) (fn : Func) (R : Value → Heap → Prop) : Out := fun e l H => (e = .normal ∨ e = .ret) ∧ bindV (resultsD P fn l H) fun v => R v H

theorem endQ_normal (fn : Func) (R : Value → Heap → Prop) (l : List Value) : endQ P fn R .normal l H = bindV (resultsD P fn l H) fun v => R v H := by simp [endQ]
theorem endQ_ret (fn : Func) (R : Value → Heap → Prop) (l : List Value) : endQ P fn R .ret l H = bindV (resultsD P fn l H) fun v => R v H := by simp [endQ]

theorem Fn.of_wp {k : FuncId} {fn : Func} {c : Code} {args : List Value} {R : Value → Heap → Prop} (hf : P.funcs[k]? = some fn) (hb : fn.body = some c) (hn : (fn.name == "runtime.NumGoroutine") = false)
    (h : ∀ l, l = args ++ List.replicate (fn.ntmps - args.length) undef → Wp P c l H (endQ P fn R)) : Fn P k args H R := by
  refine ⟨⟨fn, hf, by simp [hb], hn⟩, ?_⟩
  refine CallOk.of_wp hf hb hn ((h _ rfl).mono ?_)
  rintro e l H1 ⟨h1, h2⟩
  refine ⟨h1, ?_⟩
  unfold bindV at h2
  split at h2
  · rename_i v hv; exact ⟨v, hv, h2⟩
  · exact h2.elim

theorem Fn.mono {k : FuncId} {args : List Value} {R R' : Value → Heap → Prop} (h : Fn P k args H R) (hr : ∀ v H1, R v H1 → R' v H1) : Fn P k args H R' := by
  obtain ⟨h1, v, H1, h2, h3⟩ := h
  exact ⟨h1, v, H1, h2, hr _ _ h3⟩

theorem RdAt.cells {v : Value} {size : Nat} {cs : List Value} (h : RdAt H v size cs) : v.cells = #[v] ∧ oneCell v = true ∧ isC0 v = true := by
  rcases h with ⟨rfl, _⟩ | ⟨A, i, e, row, ty, rw, lo, ver, n, h1, h2, h3, h4, h5, h6, rfl⟩ <;> exact ⟨rfl, rfl, rfl⟩


theorem callW_mono {f : Value} {args : List Value} {K K' : Value → Heap → Prop} (h : callW P f args H K) (hk : ∀ v H1, K v H1 → K' v H1) : callW P f args H K' := by
  unfold callW at h ⊢
  split at h
  · obtain ⟨v, H1, h1, h2, h3⟩ := h
    exact ⟨v, H1, h1, h2, hk _ _ h3⟩
  · obtain ⟨v, H1, h1, h2⟩ := h
    exact ⟨v, H1, h1, hk _ _ h2⟩
  · exact h.elim

theorem callW_fn {k : FuncId} {a b : Array Value} {args : List Value} {K : Value → Heap → Prop} (h : Fn P k (a.toList ++ args ++ b.toList) H K) : callW P (.func (.func k) a b) args H K := by
  obtain ⟨h1, v, H1, h2, h3⟩ := h
  exact ⟨v, H1, h1, h2, h3⟩


/-! ### Slices of slices -/
def sliceS (z : Option Nat) (x : Value) (lo hi : Option Value) : Option Value :=
  z.bind fun size => match x with
  | .slice (some ⟨A, i, some e⟩) n c =>
    (match hi with | some h => natOf h | none => some n).bind fun h =>
    (match lo with | some l => natOf l | none => some 0).bind fun l =>
    if l ≤ h && h ≤ n && c == size then some (.slice (some ⟨A, i + l * size, some e⟩) (h - l) size) else none
  | _ => none

theorem sliceD_eq (t : TypeId) (x : Value) (lo hi : Option Value) : sliceD P t x lo hi = sliceS (sliceSz P t) x lo hi := by
  unfold sliceD sliceS sliceSz
  cases sliceElem P t with
  | none => rfl
  | some e => rfl

def sliceW (P : Program) (o : Oper) (l : List Value) (H : Heap) (z : Option Nat) (v : Value) (lo hi : Option Value) (K : Value → Heap → Prop) (_k : Keep K := ⟨⟩) : Prop := if flat v then bindW (opD P o l H) K else bindV (sliceS z v lo hi) fun v => K v H

theorem opW_slice (d ty pos af g) (t : TypeId) (x : Operand) (lo hi : Option Operand) (l : List Value) (K : Value → Heap → Prop) (hok : ∀ a, lo = some a ∨ hi = some a → operandOk a = true) (hx : operandOk x = true)
    (h : sliceW P ⟨d, .slice t x lo hi none, ty, pos, af, g⟩ l H (sliceSz P t) (ev l x) (lo.map (ev l)) (hi.map (ev l)) K) : opW P ⟨d, .slice t x lo hi none, ty, pos, af, g⟩ l H K := by
  refine ⟨?_, ?_⟩
  · simp only [Op.operands]
    cases lo <;> cases hi <;> simp_all
  · show bindW _ K
    unfold sliceW at h
    split at h
    · exact h
    · rename_i hf
      have e : opD P ⟨d, .slice t x lo hi none, ty, pos, af, g⟩ l H = (sliceS (sliceSz P t) (ev l x) (lo.map (ev l)) (hi.map (ev l))).map fun v => (v, H) := by
        simp only [opD]
        rw [if_neg hf, sliceD_eq]
      rw [e]
      cases hs : sliceS (sliceSz P t) (ev l x) (lo.map (ev l)) (hi.map (ev l)) with
      | none => rw [hs] at h; exact h.elim
      | some v => rw [hs] at h; exact h

theorem opW_slice_eq (d ty pos af g) (t : TypeId) (x : Operand) (lo hi : Option Operand) (l : List Value) (K : Value → Heap → Prop) :
    opW P ⟨d, .slice t x lo hi none, ty, pos, af, g⟩ l H K = (((#[x] ++ lo.toArray ++ hi.toArray).toList.all operandOk = true) ∧ sliceW P ⟨d, .slice t x lo hi none, ty, pos, af, g⟩ l H (sliceSz P t) (ev l x) (lo.map (ev l)) (hi.map (ev l)) K) := by
  apply propext
  constructor
  · intro h
    obtain ⟨h1, h2⟩ := h
    refine ⟨?_, ?_⟩
    · cases lo <;> cases hi <;> simpa [Op.operands] using h1
    · unfold sliceW
      split
      · exact h2
      · rename_i hf
        have e : opD P ⟨d, .slice t x lo hi none, ty, pos, af, g⟩ l H = (sliceS (sliceSz P t) (ev l x) (lo.map (ev l)) (hi.map (ev l))).map fun v => (v, H) := by
          simp only [opD]
          rw [if_neg hf, sliceD_eq]
        replace h2 : bindW (opD P ⟨d, .slice t x lo hi none, ty, pos, af, g⟩ l H) K := h2
        rw [e] at h2
        cases hs : sliceS (sliceSz P t) (ev l x) (lo.map (ev l)) (hi.map (ev l)) with
        | none => rw [hs] at h2; exact h2.elim
        | some v => rw [hs] at h2; exact h2
  · rintro ⟨h1, h2⟩
    refine opW_slice d ty pos af g t x lo hi l K ?_ ?_ h2
    · intro a ha
      cases lo <;> cases hi <;> simp_all
      rcases ha with rfl | rfl <;> simp_all
    · cases lo <;> cases hi <;> simp_all

theorem opW_sliceL (d ty pos af g) (t : TypeId) (x a : Operand) (l : List Value) (K : Value → Heap → Prop) :
    opW P ⟨d, .slice t x (some a) none none, ty, pos, af, g⟩ l H K = opdW x l fun v => opdW a l fun a' => sliceW P ⟨d, .slice t x (some a) none none, ty, pos, af, g⟩ l H (sliceSz P t) v (some a') none K := by
  rw [opW_slice_eq]; simp [opdW, and_assoc]
theorem opW_sliceH (d ty pos af g) (t : TypeId) (x a : Operand) (l : List Value) (K : Value → Heap → Prop) :
    opW P ⟨d, .slice t x none (some a) none, ty, pos, af, g⟩ l H K = opdW x l fun v => opdW a l fun a' => sliceW P ⟨d, .slice t x none (some a) none, ty, pos, af, g⟩ l H (sliceSz P t) v none (some a') K := by
  rw [opW_slice_eq]; simp [opdW, and_assoc]
theorem opW_sliceB (d ty pos af g) (t : TypeId) (x a b : Operand) (l : List Value) (K : Value → Heap → Prop) :
    opW P ⟨d, .slice t x (some a) (some b) none, ty, pos, af, g⟩ l H K = opdW x l fun v => opdW a l fun a' => opdW b l fun b' => sliceW P ⟨d, .slice t x (some a) (some b) none, ty, pos, af, g⟩ l H (sliceSz P t) v (some a') (some b') K := by
  rw [opW_slice_eq]; simp [opdW, and_assoc]

/-- The part of a slice from an item on, of some items. -/
def subS (v : Value) (size lo k : Nat) : Value := match v with
  | .slice (some ⟨A, i, s⟩) _ _ => .slice (some ⟨A, i + lo * size, s⟩) k size
  | v => v

theorem RdAt.sub {v : Value} {size : Nat} {cs : List Value} (h : RdAt H v size cs) (lo k : Nat) (hk : lo * size + k * size ≤ cs.length) (h0 : cs ≠ []) : RdAt H (subS v size lo k) size ((cs.drop (lo * size)).take (k * size)) := by
  rcases h with ⟨rfl, rfl⟩ | ⟨A, i, e, row, ty, rw, lo', ver, n, h1, h2, h3, h4, h5, h6, rfl⟩
  · exact (h0 rfl).elim
  · refine .inr ⟨A, i + lo * size, e, row, ty, rw, lo', ver, k, h1, h2, h3, ?_, ?_, ?_, rfl⟩
    · simp; omega
    · have hl : (List.take (k * size) (List.drop (lo * size) cs)).length = k * size := by simp; omega
      rw [hl]
      conv => rhs; rw [← h5]
      rw [List.drop_take, List.take_take, List.drop_drop, Nat.min_eq_left (by omega)]
    · simp; omega

theorem RdAt.notFlat {v : Value} {size : Nat} {cs : List Value} (h : RdAt H v size cs) (h0 : cs ≠ []) : flat v = false := by
  rcases h with ⟨rfl, rfl⟩ | ⟨A, i, e, row, ty, rw, lo', ver, n, h1, h2, h3, h4, h5, h6, rfl⟩
  · exact (h0 rfl).elim
  · rfl

theorem RdAt.sliceL {v : Value} {size : Nat} {cs : List Value} (h : RdAt H v (size + 1) cs) {n : Nat} (hn : cs.length = n * (size + 1)) (o : Oper) (l : List Value) (H' : Heap) (k : IntKind) (a : Int) (K : Value → Heap → Prop) (h0 : 0 < n) (h1 : 0 ≤ a) (h2 : a ≤ n) :
    sliceW P o l H' (some (size + 1)) v (some (.int k a)) none K = letV (subS v (size + 1) a.toNat (n - a.toNat)) fun v => K v H' := by
  have hne : cs ≠ [] := fun e => by
    subst e
    have hp := Nat.mul_pos h0 (Nat.succ_pos size)
    have hq : 0 = n * (size + 1) := hn
    exact absurd (hq ▸ hp : 0 < 0) (Nat.lt_irrefl _)
  unfold sliceW
  rw [h.notFlat hne]
  rcases h with ⟨rfl, rfl⟩ | ⟨A, i, e, row, ty, rw, lo', ver, m, h3, h4, h5, h6, h7, h8, rfl⟩
  · exact (hne rfl).elim
  · have : m = n := Nat.eq_of_mul_eq_mul_right (Nat.succ_pos size) (h8.symm.trans hn)
    subst this
    have h9 : a.toNat ≤ m := by omega
    simp [sliceS, natOf, h1, h2, h9, subS, bindV, letV]

theorem RdAt.sliceH {v : Value} {size : Nat} {cs : List Value} (h : RdAt H v (size + 1) cs) {n : Nat} (hn : cs.length = n * (size + 1)) (o : Oper) (l : List Value) (H' : Heap) (k : IntKind) (a : Int) (K : Value → Heap → Prop) (h0 : 0 < n) (h1 : 0 ≤ a) (h2 : a ≤ n) :
    sliceW P o l H' (some (size + 1)) v none (some (.int k a)) K = letV (subS v (size + 1) 0 a.toNat) fun v => K v H' := by
  have hne : cs ≠ [] := fun e => by
    subst e
    have hp := Nat.mul_pos h0 (Nat.succ_pos size)
    have hq : 0 = n * (size + 1) := hn
    exact absurd (hq ▸ hp : 0 < 0) (Nat.lt_irrefl _)
  unfold sliceW
  rw [h.notFlat hne]
  rcases h with ⟨rfl, rfl⟩ | ⟨A, i, e, row, ty, rw, lo', ver, m, h3, h4, h5, h6, h7, h8, rfl⟩
  · exact (hne rfl).elim
  · have : m = n := Nat.eq_of_mul_eq_mul_right (Nat.succ_pos size) (h8.symm.trans hn)
    subst this
    have h9 : a.toNat ≤ m := by omega
    simp [sliceS, natOf, h1, h2, h9, subS, bindV, letV]

/-- What is ours is cut at its front. -/
theorem St.suffix (hS : St P H0 H os) (i : Nat) {v : Value} {size : Nat} {cs : List Value} (ho : os[i]? = some ⟨v, size + 1, cs⟩) {n : Nat} (hn : cs.length = n * (size + 1)) (a : Nat) (h0 : 0 < n) (ha : a ≤ n) :
    St P H0 H (os.set i ⟨subS v (size + 1) a (n - a), size + 1, cs.drop (a * (size + 1))⟩) := by
  have hne : cs ≠ [] := fun e => by
    subst e
    have hp := Nat.mul_pos h0 (Nat.succ_pos size)
    have hq : 0 = n * (size + 1) := hn
    exact absurd (hq ▸ hp : 0 < 0) (Nat.lt_irrefl _)
  have hown := hS.own _ (List.mem_of_getElem? ho)
  unfold OwnAt at hown
  rw [if_neg (Nat.succ_ne_zero _)] at hown
  rcases hown with ⟨h2, h3⟩ | ⟨A, k, ty, lo, ver, pre, m, h2, h3, h4, h5, h6, h7⟩
  · exact (hne h3).elim
  · simp only at h2 h3 h5 h6
    have : m = n := Nat.eq_of_mul_eq_mul_right (Nat.succ_pos size) (h5.symm.trans hn)
    subst this
    have hle : a * (size + 1) ≤ cs.length := by rw [hn]; exact Nat.mul_le_mul_right _ ha
    refine hS.put i ho ?_ (Nat.le_refl _) (fun _ _ _ => rfl) ?_
    · unfold OwnAt
      rw [if_neg (Nat.succ_ne_zero _)]
      refine .inr ⟨A, k + a * (size + 1), ty, lo, ver, pre ++ cs.take (a * (size + 1)), m - a, ?_, ?_, ?_, ?_, ?_, h7⟩
      · rw [h2, List.append_assoc, List.take_append_drop]
      · simp; omega
      · simp [h4]; omega
      · simp [Nat.sub_mul, hn]
      · rw [h6]
        simp only [subS, List.length_drop, Value.slice.injEq, Option.some.injEq, Addr.mk.injEq, true_and, and_true]
        omega
    · intro B hB
      left
      rw [h6] at hB ⊢
      exact hB

/-- Copying into a part of what is ours, whose items are of one cell. -/
theorem St.eCopy1 (hS : St P H0 H os) (i : Nat) {v : Value} {cs : List Value} (ho : os[i]? = some ⟨v, 1, cs⟩) {x : Value} {ys : List Value} (hx : RdAt H x 1 ys) (lo k : Nat) (hk : lo + k ≤ cs.length) (h0 : 0 < k) (hy : 0 < ys.length) {t : TypeId} (ht : sliceSz P t = some 1) {K : Value → Heap → Prop}
    (h : ∀ H1, St P H0 H1 (os.set i ⟨v, 1, setMany cs lo (ys.take (min ys.length k))⟩) → K (.int .i64 ((min ys.length k : Nat) : Int)) H1) : copyW P H t (subS v 1 lo k) x K := by
  have hown := hS.own _ (List.mem_of_getElem? ho)
  unfold OwnAt at hown
  rw [if_neg (by simp)] at hown
  rcases hown with ⟨h2, h3⟩ | ⟨A, j, ty, lo', ver, pre, m, h2, h3, h4, h5, h6, h7⟩
  · simp only at h3; subst h3; simp only [List.length_nil] at hk; omega
  simp only at h2 h3 h5 h6
  subst h6
  rcases hx with ⟨rfl, rfl⟩ | ⟨B, i2, e2, row, ty2, rw2, lo2, ver2, n2, g1, g2, g3, g4, g5, g6, rfl⟩
  · simp at hy
  have hn2 : n2 = ys.length := by omega
  subst hn2
  unfold sliceSz at ht
  cases he : sliceElem P t with
  | none => rw [he] at ht; cases ht
  | some elem =>
  rw [he] at ht
  simp only [Option.bind_some] at ht
  have hq1 : min ys.length k ≤ ys.length := Nat.min_le_left _ _
  have hq2 : min ys.length k ≤ k := Nat.min_le_right _ _
  have hq3 : 0 < min ys.length k := by omega
  have hq4 : Nat.min ys.length k = min ys.length k := rfl
  revert h
  generalize min ys.length k = q at hq1 hq2 hq3 hq4 ⊢
  intro h
  refine ⟨.int .i64 ((q : Nat) : Int), hset H A (.cells (setMany (pre ++ cs) (j + lo) (ys.take q)) ty true (pre ++ cs).length (ver + 1)), ?_, h _ (hS.put i ho ?_ ?_ ?_ ?_)⟩
  · have hs : srcD H 1 q (.slice (some ⟨B, i2, some e2⟩) ys.length 1) = some (ys.take q) := by
      have hc : i2 + q * 1 ≤ e2 := by omega
      simp only [srcD, cellsAt, g1]
      rw [if_pos hq1, if_pos (by simp [g2, g3]; omega)]
      have e : ys.take q = ((row.drop i2).take ys.length).take q := by rw [g5]
      rw [e, List.take_take, Nat.min_eq_left hq1, Nat.mul_one]
    have hl : (ys.take q).length = q := by simp; omega
    simp only [copyD, subS, he, ht, Option.bind_some, lenNat, hq4, hs, h2]
    rw [if_neg (by simp only [beq_iff_eq]; omega)]
    rw [if_pos (by
      rw [hl]
      simp [h4, h3]; omega)]
    simp [goInt]
  · unfold OwnAt
    rw [if_neg (by simp)]
    refine .inr ⟨A, j, ty, (pre ++ cs).length, ver + 1, pre, m, ?_, ?_, h4, ?_, ?_, h7⟩
    · rw [hget_hset_same _ (hget_lt h2), ← h4, setMany_append]
    · simp [setMany_length, h4]
    · simp only [setMany_length]; exact h5
    · simp only [setMany_length]
  · rw [length_hset]; exact Nat.le_refl _
  · intro B' hB hne
    refine hset_old fun hh => hne ?_
    simp [blk, hh]
  · intro B' hB
    exact .inl hB

/-- What clearing asks of a type: its items' cells, all plain. -/
def clrOk (P : Program) (t : TypeId) : Option Nat := (sliceElem P t).bind fun elem => (zeroP P elem).bind fun z => if scalars z.cells.toList && z.cells.size != 0 then some z.cells.size else none

theorem zeroCells_size (z : Array Value) (n : Nat) : (Builtin.zeroCells z n).toList.length = n * z.size := by simp [Builtin.zeroCells]
theorem zeroCells_scalars (z : Array Value) (n : Nat) (h : scalars z.toList = true) (h0 : z.size ≠ 0) : scalars (Builtin.zeroCells z n).toList = true := by
  unfold scalars at h ⊢
  rw [List.all_eq_true] at h ⊢
  intro x hx
  simp only [Builtin.zeroCells, Array.toList_map, Array.toList_range, List.mem_map] at hx
  obtain ⟨i, _, rfl⟩ := hx
  have hlt : i % z.size < z.size := Nat.mod_lt _ (Nat.pos_of_ne_zero h0)
  rw [getElem!_pos z _ hlt]
  exact h _ (by simp)

/-- A part of what is ours is cleared. -/
theorem St.eClear (hS : St P H0 H os) (i : Nat) {v : Value} {size : Nat} {cs : List Value} (ho : os[i]? = some ⟨v, size + 1, cs⟩) (lo k : Nat) (hk : lo * (size + 1) + k * (size + 1) ≤ cs.length) (hne : cs ≠ []) {t : TypeId} (ht : clrOk P t = some (size + 1)) {K : Value → Heap → Prop}
    (h : ∀ l H1, l.length = k * (size + 1) → St P H0 H1 (os.set i ⟨v, size + 1, setMany cs (lo * (size + 1)) l⟩) → K (.tuple #[]) H1) : clearW P H t (subS v (size + 1) lo k) K := by
  unfold clrOk at ht
  cases he : sliceElem P t with
  | none => rw [he] at ht; cases ht
  | some elem =>
  rw [he] at ht
  simp only [Option.bind_some] at ht
  cases hz : zeroP P elem with
  | none => rw [hz] at ht; cases ht
  | some z =>
  rw [hz] at ht
  simp only [Option.bind_some] at ht
  split at ht
  case isFalse => cases ht
  rename_i hc
  simp only [Bool.and_eq_true, bne_iff_ne, ne_eq] at hc
  have hzs := Option.some.inj ht
  have hown := hS.own _ (List.mem_of_getElem? ho)
  unfold OwnAt at hown
  rw [if_neg (Nat.succ_ne_zero _)] at hown
  rcases hown with ⟨h2, h3⟩ | ⟨A, j, ty, lo', ver, pre, m, h2, h3, h4, h5, h6, h7⟩
  · exact (hne h3).elim
  simp only at h2 h3 h5 h6
  subst h6
  by_cases hk0 : k = 0
  · subst hk0
    refine ⟨.tuple #[], H, ?_, h [] H (by simp) ?_⟩
    · simp [clearD, subS, he, hz]
    · obtain ⟨hi, hoi⟩ := List.getElem?_eq_some_iff.1 ho
      rw [setMany_nil, ← hoi, List.set_getElem_self]
      exact hS
  · have hl : (Builtin.zeroCells z.cells k).toList.length = k * (size + 1) := by rw [zeroCells_size, hzs]
    have hsc := zeroCells_scalars z.cells k hc.1 hc.2
    refine ⟨.tuple #[], hset H A (.cells (setMany (pre ++ cs) (j + lo * (size + 1)) (Builtin.zeroCells z.cells k).toList) ty true (pre ++ cs).length (ver + 1)), ?_, h _ _ hl (hS.put i ho ?_ ?_ ?_ ?_)⟩
    · simp only [clearD, subS, he, hz, Option.bind_some, h2]
      rw [if_neg (by simpa using hk0), if_pos (by
        rw [hsc, hl]
        simp [h4, h3]; omega)]
    · unfold OwnAt
      rw [if_neg (Nat.succ_ne_zero _)]
      refine .inr ⟨A, j, ty, (pre ++ cs).length, ver + 1, pre, m, ?_, ?_, h4, ?_, ?_, h7⟩
      · rw [hget_hset_same _ (hget_lt h2), ← h4, setMany_append]
      · simp [setMany_length, h4]
      · simp only [setMany_length]; exact h5
      · simp only [setMany_length]
    · rw [length_hset]; exact Nat.le_refl _
    · intro B' hB hne'
      refine hset_old fun hh => hne' ?_
      simp [blk, hh]
    · intro B' hB
      exact .inl hB

end
end Go.Ds
/-
  Ds: the rules of the symbolic run, in two bundles.
-/
namespace Go.Ds
theorem flat_int (k : IntKind) (n : Int) : flat (.int k n) = true := rfl
theorem flat_bool (b : Bool) : flat (.bool b) = true := rfl
theorem flat_slice : flat (.slice none 0 0) = true := rfl
theorem flat1_int (k : IntKind) (n : Int) : flat1 (.int k n) = true := rfl
theorem flat1_bool (b : Bool) : flat1 (.bool b) = true := rfl
theorem dstAt_eq (ops : List Oper) (j : Nat) : dstAt ops.toArray j = (ops[j]?).bind (·.dst) := by simp [dstAt]
theorem flat1_agg (l : List Value) : flat1 (.agg l.toArray) = l.all scalar := by simp [flat1, scalars]
theorem flat_agg (l : List Value) : flat (.agg l.toArray) = l.all scalar := by simp [flat, flat1, scalars]
theorem flat1_nil : flat1 (.slice none 0 0) = true := rfl
theorem flat_nilFunc : flat .nilFunc = true := rfl
theorem scalar_int (k : IntKind) (n : Int) : scalar (.int k n) = true := rfl
theorem scalar_bool (b : Bool) : scalar (.bool b) = true := rfl
theorem scalar_nil : scalar (.slice none 0 0) = true := rfl
theorem isC0_ptr (A i e : Nat) : isC0 (ptr A i e) = true := rfl
theorem noTuple_int (k : IntKind) (n : Int) : noTuple (.int k n) = true := rfl
theorem noTuple_bool (b : Bool) : noTuple (.bool b) = true := rfl
theorem noTuple_nil : noTuple (.slice none 0 0) = true := rfl
theorem noTuple_agg (cs : Array Value) : noTuple (.agg cs) = true := rfl
theorem RP :
    (∀ {P : Program} {H : Heap} (ops : Array Oper) (d : Option Tmp) (op : Op) (ty : TypeId) (pos : String) (af : Array Edge) (os : List Oper) (l : List Value) (K : List Value → Heap → Prop), opsW P ops (⟨d, op, ty, pos, af, none⟩ :: os) l H K = opW P ⟨d, op, ty, pos, af, none⟩ l H fun v H1 => opsW P ops os (put l d v) H1 K) ∧
    (∀ {P : Program} {H : Heap} (ops : Array Oper) (d : Option Tmp) (op : Op) (ty : TypeId) (pos : String) (af : Array Edge) (j : Nat) (b : Bool) (os : List Oper) (l : List Value) (K : List Value → Heap → Prop), opsW P ops (⟨d, op, ty, pos, af, some (j, b)⟩ :: os) l H K = guardW (dstAt ops j) l b (opW P ⟨d, op, ty, pos, af, some (j, b)⟩ l H fun v H1 => opsW P ops os (put l d v) H1 K) (opsW P ops os (put l d undef) H K)) ∧
    (∀ {P : Program} {H : Heap} (ops : Array Oper) (d : Option Tmp) (op : Op) (ty : TypeId) (pos : String) (af : Array Edge) (os : List Oper) (tr : List (List Value × Heap × Value)) (l : List Value) (K : List (List Value × Heap × Value) → List Value → Heap → Prop), opsTW P ops (⟨d, op, ty, pos, af, none⟩ :: os) tr l H K = opW P ⟨d, op, ty, pos, af, none⟩ l H fun v H1 => opsTW P ops os (tr ++ [(l, H, v)]) (put l d v) H1 K) ∧
    (∀ {P : Program} {H : Heap} (ops : Array Oper) (d : Option Tmp) (op : Op) (ty : TypeId) (pos : String) (af : Array Edge) (j : Nat) (b : Bool) (os : List Oper) (tr : List (List Value × Heap × Value)) (l : List Value) (K : List (List Value × Heap × Value) → List Value → Heap → Prop), opsTW P ops (⟨d, op, ty, pos, af, some (j, b)⟩ :: os) tr l H K = guardW (dstAt ops j) l b (opW P ⟨d, op, ty, pos, af, some (j, b)⟩ l H fun v H1 => opsTW P ops os (tr ++ [(l, H, v)]) (put l d v) H1 K) (opsTW P ops os (tr ++ [(l, H, undef)]) (put l d undef) H K)) ∧
    (∀ {P : Program} {H : Heap} (d : Option Tmp) (ty : TypeId) (pos : String) (af : Array Edge) (g : Option (Nat × Bool)) (x : Operand) (l : List Value) (K : Value → Heap → Prop), opW P ⟨d, .move x, ty, pos, af, g⟩ l H K = opdW x l fun v => K v H) ∧
    (∀ {P : Program} {H : Heap} (d : Option Tmp) (ty : TypeId) (pos : String) (af : Array Edge) (g : Option (Nat × Bool)) (x : Operand) (l : List Value) (K : Value → Heap → Prop), opW P ⟨d, .assign x, ty, pos, af, g⟩ l H K = opdW x l fun v => K v H) ∧
    (∀ {P : Program} {H : Heap} (d : Option Tmp) (ty : TypeId) (pos : String) (af : Array Edge) (g : Option (Nat × Bool)) (c a b : Operand) (l : List Value) (K : Value → Heap → Prop), opW P ⟨d, .pick c a b, ty, pos, af, g⟩ l H K = opdW c l fun c => opdW a l fun a => opdW b l fun b => pickW c a b fun v => K v H) ∧
    (∀ {P : Program} {H : Heap} (d : Option Tmp) (ty : TypeId) (pos : String) (af : Array Edge) (g : Option (Nat × Bool)) (t : TypeId) (a : Operand) (l : List Value) (K : Value → Heap → Prop), opW P ⟨d, .load t a, ty, pos, af, g⟩ l H K = opdW a l fun p => bindV (ldW (aggP P t) (sizeP P t) H p) fun v => K v H) ∧
    (∀ {P : Program} {H : Heap} (d : Option Tmp) (ty : TypeId) (pos : String) (af : Array Edge) (g : Option (Nat × Bool)) (t : TypeId) (a x : Operand) (l : List Value) (K : Value → Heap → Prop), opW P ⟨d, .store t a x, ty, pos, af, g⟩ l H K = opdW a l fun p => opdW x l fun v => storeW P H t p v fun H1 => K undef H1) ∧
    (∀ {P : Program} {H : Heap} (d : Option Tmp) (ty : TypeId) (pos : String) (af : Array Edge) (g : Option (Nat × Bool)) (t : TypeId) (l : List Value) (K : Value → Heap → Prop), opW P ⟨d, .alloc t, ty, pos, af, g⟩ l H K = allocW P H t (zeroP P t) K) ∧
    (∀ {P : Program} {H : Heap} (d : Option Tmp) (ty : TypeId) (pos : String) (af : Array Edge) (g : Option (Nat × Bool)) (t : TypeId) (x : Operand) (l : List Value) (K : Value → Heap → Prop), opW P ⟨d, .box t x, ty, pos, af, g⟩ l H K = opdW x l fun v => newW P H t v K) ∧
    (∀ {P : Program} {H : Heap} (d : Option Tmp) (ty : TypeId) (pos : String) (af : Array Edge) (g : Option (Nat × Bool)) (t : TypeId) (parts : List (Nat × Operand)) (l : List Value) (K : Value → Heap → Prop), opW P ⟨d, .build t parts.toArray, ty, pos, af, g⟩ l H K = partsW parts l fun ps => bindV (builtV P t ps) fun v => K v H) ∧
    (∀ {P : Program} {H : Heap} (d : Option Tmp) (ty : TypeId) (pos : String) (af : Array Edge) (g : Option (Nat × Bool)) (t : TypeId) (len : Nat) (parts : List (Nat × Operand)) (l : List Value) (K : Value → Heap → Prop), opW P ⟨d, .buildSlice t len parts.toArray, ty, pos, af, g⟩ l H K = partsW parts l fun ps => sliceOfW P H t len ps K) ∧
    (∀ {P : Program} {H : Heap} (d : Option Tmp) (ty : TypeId) (pos : String) (af : Array Edge) (g : Option (Nat × Bool)) (t : TypeId) (n c : Operand) (l : List Value) (K : Value → Heap → Prop), opW P ⟨d, .makeSlice t n c, ty, pos, af, g⟩ l H K = opdW n l fun n => opdW c l fun c => makeSliceW P H t n c K) ∧
    (∀ {P : Program} {H : Heap} (d : Option Tmp) (ty : TypeId) (pos : String) (af : Array Edge) (g : Option (Nat × Bool)) (s x : Operand) (t1 t2 : TypeId) (l : List Value) (K : Value → Heap → Prop), opW P ⟨d, .call { callee := .builtin .append, args := #[s, x], argTypes := #[t1, t2] }, ty, pos, af, g⟩ l H K = andW (notIntT P t2) (opdW s l fun s => opdW x l fun x => appendW P H t1 s x K)) ∧
    (∀ {P : Program} {H : Heap} (d : Option Tmp) (ty : TypeId) (pos : String) (af : Array Edge) (g : Option (Nat × Bool)) (s x : Operand) (t1 t2 : TypeId) (l : List Value) (K : Value → Heap → Prop), opW P ⟨d, .call { callee := .builtin .copy, args := #[s, x], argTypes := #[t1, t2] }, ty, pos, af, g⟩ l H K = opdW s l fun s => opdW x l fun x => copyW P H t1 s x K) ∧
    (∀ {P : Program} {H : Heap} (d : Option Tmp) (ty : TypeId) (pos : String) (af : Array Edge) (g : Option (Nat × Bool)) (s : Operand) (t1 : TypeId) (l : List Value) (K : Value → Heap → Prop), opW P ⟨d, .call { callee := .builtin .clear, args := #[s], argTypes := #[t1] }, ty, pos, af, g⟩ l H K = opdW s l fun s => clearW P H t1 s K) ∧
    (∀ {P : Program} {H : Heap} (d : Option Tmp) (ty : TypeId) (pos : String) (af : Array Edge) (g : Option (Nat × Bool)) (x : Operand) (t : TypeId) (l : List Value) (K : Value → Heap → Prop), opW P ⟨d, .call { callee := .builtin .len, args := #[x], argTypes := #[t] }, ty, pos, af, g⟩ l H K = opdW x l fun x => bindV (lenV P H t x) fun v => K v H) ∧
    (∀ {P : Program} {H : Heap} (d : Option Tmp) (ty : TypeId) (pos : String) (af : Array Edge) (g : Option (Nat × Bool)) (s : TypeId) (x : Operand) (f : Nat) (l : List Value) (K : Value → Heap → Prop), opW P ⟨d, .fieldAddr s x f, ty, pos, af, g⟩ l H K = opdW x l fun x => bindV (fldV P s f x) fun v => K v H) ∧
    (∀ {P : Program} {H : Heap} (d : Option Tmp) (ty : TypeId) (pos : String) (af : Array Edge) (g : Option (Nat × Bool)) (t : TypeId) (x i : Operand) (l : List Value) (K : Value → Heap → Prop), opW P ⟨d, .indexAddr t x i, ty, pos, af, g⟩ l H K = opdW x l fun x => opdW i l fun i => bindV (idxV P t x i) fun v => K v H) ∧
    (∀ {P : Program} {H : Heap} (d : Option Tmp) (ty : TypeId) (pos : String) (af : Array Edge) (g : Option (Nat × Bool)) (op : BinOp) (t : TypeId) (x y : Operand) (t2 : TypeId) (l : List Value) (K : Value → Heap → Prop), opW P ⟨d, .binOp op t x y t2, ty, pos, af, g⟩ l H K = opdW x l fun x' => opdW y l fun y' => binW P ⟨d, .binOp op t x y t2, ty, pos, af, g⟩ op l H x' y' K) ∧
    (∀ {P : Program} {H : Heap} (d : Option Tmp) (ty : TypeId) (pos : String) (af : Array Edge) (g : Option (Nat × Bool)) (op : UnOp) (t : TypeId) (x : Operand) (l : List Value) (K : Value → Heap → Prop), opW P ⟨d, .unOp op t x, ty, pos, af, g⟩ l H K = opdW x l fun x => bindV (unV P op t x) fun v => K v H) ∧
    (∀ {P : Program} {H : Heap} (d : Option Tmp) (ty : TypeId) (pos : String) (af : Array Edge) (g : Option (Nat × Bool)) (s t : TypeId) (x : Operand) (l : List Value) (K : Value → Heap → Prop), opW P ⟨d, .convert s t x, ty, pos, af, g⟩ l H K = opdW x l fun x => bindV (convV P s t x) fun v => K v H) ∧
    (∀ {P : Program} {H : Heap} (d : Option Tmp) (ty : TypeId) (pos : String) (af : Array Edge) (g : Option (Nat × Bool)) (x : Operand) (i : Nat) (l : List Value) (K : Value → Heap → Prop), opW P ⟨d, .extract x i, ty, pos, af, g⟩ l H K = opdW x l fun x => bindV (extrV x i) fun v => K v H) ∧
    (∀ {P : Program} {H : Heap} (d : Option Tmp) (ty : TypeId) (pos : String) (af : Array Edge) (g : Option (Nat × Bool)) (t : TypeId) (x : Operand) (f : Nat) (l : List Value) (K : Value → Heap → Prop), opW P ⟨d, .field t x f, ty, pos, af, g⟩ l H K = opdW x l fun x => bindV (fieldV P t x f) fun v => K v H) ∧
    (∀ {P : Program} {H : Heap} (d : Option Tmp) (ty : TypeId) (pos : String) (af : Array Edge) (g : Option (Nat × Bool)) (f : Operand) (args : List Operand) (ts : Array TypeId) (l : List Value) (K : Value → Heap → Prop), opW P ⟨d, .call { callee := .value f, args := args.toArray, argTypes := ts }, ty, pos, af, g⟩ l H K = opdW f l fun f => opdsW args l fun vs => callW P f vs H K) ∧
    (∀ {P : Program} {H : Heap} (d : Option Tmp) (ty : TypeId) (pos : String) (af : Array Edge) (g : Option (Nat × Bool)) (f : FuncId) (captured : List Operand) (l : List Value) (K : Value → Heap → Prop), opW P ⟨d, .makeFunc (.func f) #[] captured.toArray, ty, pos, af, g⟩ l H K = opdsW captured l fun vs => andW (vs.all isC0) (K (.func (.func f) #[] vs.toArray) H)) ∧
    (∀ {P : Program} {H : Heap} (d : Option Tmp) (ty : TypeId) (pos : String) (af : Array Edge) (g : Option (Nat × Bool)) (t : TypeId) (x a : Operand) (l : List Value) (K : Value → Heap → Prop), opW P ⟨d, .slice t x (some a) none none, ty, pos, af, g⟩ l H K = opdW x l fun v => opdW a l fun a' => sliceW P ⟨d, .slice t x (some a) none none, ty, pos, af, g⟩ l H (sliceSz P t) v (some a') none K) ∧
    (∀ {P : Program} {H : Heap} (d : Option Tmp) (ty : TypeId) (pos : String) (af : Array Edge) (g : Option (Nat × Bool)) (t : TypeId) (x a : Operand) (l : List Value) (K : Value → Heap → Prop), opW P ⟨d, .slice t x none (some a) none, ty, pos, af, g⟩ l H K = opdW x l fun v => opdW a l fun a' => sliceW P ⟨d, .slice t x none (some a) none, ty, pos, af, g⟩ l H (sliceSz P t) v none (some a') K) ∧
    (∀ {P : Program} {H : Heap} (d : Option Tmp) (ty : TypeId) (pos : String) (af : Array Edge) (g : Option (Nat × Bool)) (t : TypeId) (x a b : Operand) (l : List Value) (K : Value → Heap → Prop), opW P ⟨d, .slice t x (some a) (some b) none, ty, pos, af, g⟩ l H K = opdW x l fun v => opdW a l fun a' => opdW b l fun b' => sliceW P ⟨d, .slice t x (some a) (some b) none, ty, pos, af, g⟩ l H (sliceSz P t) v (some a') (some b') K) ∧
    (∀ (t : Tmp) (l : List Value) (K : Value → Prop), opdW (.tmp t) l K = letV (get l t) K) ∧
    (∀ (v : Value) (l : List Value) (K : Value → Prop), opdW (.const v) l K = andW (flat v) (K v)) ∧
    (∀ (f : FuncId) (l : List Value) (K : Value → Prop), opdW (.func f) l K = K (.func (.func f) #[] #[])) ∧
    (∀ (l : List Value) (K : List Value → Prop), opdsW [] l K = K []) ∧
    (∀ (x : Operand) (xs : List Operand) (l : List Value) (K : List Value → Prop), opdsW (x :: xs) l K = opdW x l fun v => opdsW xs l fun vs => K (v :: vs)) ∧
    (∀ (l : List Value) (K : List (Nat × Value) → Prop), partsW [] l K = K []) ∧
    (∀ (i : Nat) (x : Operand) (xs : List (Nat × Operand)) (l : List Value) (K : List (Nat × Value) → Prop), partsW ((i, x) :: xs) l K = opdW x l fun v => partsW xs l fun vs => K ((i, v) :: vs)) ∧
    (∀ (d : Tmp) (l : List Value) (b : Bool) (p q : Prop), guardW (some d) l b p q = letG (get l d) b p q) ∧
    (∀ {P : Program} {H : Heap} (ops : Array Oper) (l : List Value) (K : List Value → Heap → Prop), opsW P ops [] l H K = K l H) ∧
    (∀ {P : Program} {H : Heap} (ops : Array Oper) (tr : List (List Value × Heap × Value)) (l : List Value) (K : List (List Value × Heap × Value) → List Value → Heap → Prop), opsTW P ops [] tr l H K = K tr l H) ∧
    (∀ {P : Program} {H : Heap} (b : Code) (Q : Out) (l : List Value), seqQ P b Q .normal l H = Wp P b l H Q) ∧
    (∀ {P : Program} {H : Heap} (b : Code) (Q : Out) (i : Nat) (l : List Value), seqQ P b Q (.exit i) l H = Q (.exit i) l H) ∧
    (∀ {P : Program} {H : Heap} (b : Code) (Q : Out) (l : List Value), seqQ P b Q .ret l H = Q .ret l H) ∧
    (∀ {H : Heap} (id : Nat) (Q : Out) (l : List Value), blockQ id Q .normal l H = Q .normal l H) ∧
    (∀ {H : Heap} (id : Nat) (Q : Out) (l : List Value), blockQ id Q .ret l H = Q .ret l H) ∧
    (∀ {H : Heap} (id i : Nat) (Q : Out) (l : List Value), blockQ id Q (.exit i) l H = if i = id then Q .normal l H else Q (.exit i) l H) ∧
    (∀ {H : Heap} (I : Nat → List Value → Heap → Prop) (n : Nat) (Q : Out) (l : List Value), roundQ I n Q .normal l H = ∃ m, m < n ∧ I m l H) ∧
    (∀ {H : Heap} (I : Nat → List Value → Heap → Prop) (n : Nat) (Q : Out) (i : Nat) (l : List Value), roundQ I n Q (.exit i) l H = Q (.exit i) l H) ∧
    (∀ {H : Heap} (I : Nat → List Value → Heap → Prop) (n : Nat) (Q : Out) (l : List Value), roundQ I n Q .ret l H = Q .ret l H) ∧
    (∀ {P : Program} {H : Heap} (fn : Func) (R : Value → Heap → Prop) (l : List Value), endQ P fn R .normal l H = bindV (resultsD P fn l H) fun v => R v H) ∧
    (∀ {P : Program} {H : Heap} (fn : Func) (R : Value → Heap → Prop) (l : List Value), endQ P fn R .ret l H = bindV (resultsD P fn l H) fun v => R v H) :=
  ⟨@opsW_cons, @opsW_guard, @opsTW_cons, @opsTW_guard, @opW_move, @opW_assign, @opW_pick, @opW_load, @opW_store, @opW_alloc, @opW_box, @opW_build, @opW_buildSlice, @opW_makeSlice, @opW_append, @opW_copy, @opW_clear, @opW_len, @opW_fieldAddr, @opW_indexAddr, @opW_bin, @opW_un, @opW_convert, @opW_extract, @opW_field, @opW_call, @opW_makeFunc, @opW_sliceL, @opW_sliceH, @opW_sliceB, @opdW_tmp, @opdW_const, @opdW_func, @opdsW_nil, @opdsW_cons, @partsW_nil, @partsW_cons, @guardW_some, @opsW_nil, @opsTW_nil, @seqQ_normal, @seqQ_exit, @seqQ_ret, @blockQ_normal, @blockQ_ret, @blockQ_exit, @roundQ_normal, @roundQ_exit, @roundQ_ret, @endQ_normal, @endQ_ret⟩
theorem RQ :
    (∀ (v : Value) (K : Value → Prop), letV v K = K v) ∧
    (∀ (v : Value) (K : Value → Prop), bindV (some v) K = K v) ∧
    (∀ (v : Value) (H1 : Heap) (K : Value → Heap → Prop), bindW (some (v, H1)) K = K v H1) ∧
    (∀ (p : Prop), andW true p = p) ∧
    (∀ (a b : Value) (K : Value → Prop), pickW (.bool true) a b K = K a) ∧
    (∀ (a b : Value) (K : Value → Prop), pickW (.bool false) a b K = K b) ∧
    (∀ (c x y : Bool) (K : Value → Prop), pickW (.bool c) (.bool x) (.bool y) K = K (.bool (if c then x else y))) ∧
    (∀ {P : Program} {H : Heap} (t : TypeId) (z : Value) (K : Value → Heap → Prop), allocW P H t (some z) K = andW (flat1 z) (newW P H t z K)) ∧
    (∀ {P : Program} {H : Heap} (k : FuncId) (a b : List Value) (args : List Value) (K : Value → Heap → Prop), callW P (.func (.func k) a.toArray b.toArray) args H K = callFW P k (a ++ args ++ b) H K) ∧
    (∀ (p q : Prop), letG (.bool true) true p q = p) ∧
    (∀ (p q : Prop), letG (.bool false) false p q = p) ∧
    (∀ (p q : Prop), letG (.bool true) false p q = q) ∧
    (∀ (p q : Prop), letG (.bool false) true p q = q) ∧
    (∀ (p q : Prop), condW (.bool true) p q = p) ∧
    (∀ (p q : Prop), condW (.bool false) p q = q) ∧
    (∀ {P : Program} {H : Heap} (t : TypeId) (v : Value), lenV P H t v = lenS (sliceSz P t) P H t v) ∧
    (∀ {P : Program} (t : TypeId) (v i : Value), idxV P t v i = idxS (sliceSz P t) P t v i) ∧
    (∀ {P : Program} (s : TypeId) (f : Nat) (v : Value), fldV P s f v = fldS (fldOff P s f) v) ∧
    (∀ (d A i e : Nat), fldS (some d) (ptr A i e) = some (ptr A (i + d) e)) ∧
    (∀ {P : Program} {H : Heap} (o : Oper) (l : List Value) (k : IntKind) (a b : Int) (K : Value → Heap → Prop), binW P o .add l H (.int k a) (.int k b) K = letV (.int k (k.wrap (a + b))) fun v => K v H) ∧
    (∀ {P : Program} {H : Heap} (o : Oper) (l : List Value) (k : IntKind) (a b : Int) (K : Value → Heap → Prop), binW P o .sub l H (.int k a) (.int k b) K = letV (.int k (k.wrap (a - b))) fun v => K v H) ∧
    (∀ {P : Program} {H : Heap} (o : Oper) (l : List Value) (k : IntKind) (a b : Int) (K : Value → Heap → Prop), binW P o .mul l H (.int k a) (.int k b) K = letV (.int k (k.wrap (a * b))) fun v => K v H) ∧
    (∀ {P : Program} {H : Heap} (o : Oper) (l : List Value) (k : IntKind) (a b : Int) (K : Value → Heap → Prop), binW P o .eql l H (.int k a) (.int k b) K = letV (.bool (decide (a = b))) fun v => K v H) ∧
    (∀ {P : Program} {H : Heap} (o : Oper) (l : List Value) (k : IntKind) (a b : Int) (K : Value → Heap → Prop), binW P o .neq l H (.int k a) (.int k b) K = letV (.bool (decide (¬ a = b))) fun v => K v H) ∧
    (∀ {P : Program} {H : Heap} (o : Oper) (l : List Value) (k : IntKind) (a b : Int) (K : Value → Heap → Prop), binW P o .lss l H (.int k a) (.int k b) K = letV (.bool (decide (a < b))) fun v => K v H) ∧
    (∀ {P : Program} {H : Heap} (o : Oper) (l : List Value) (k : IntKind) (a b : Int) (K : Value → Heap → Prop), binW P o .leq l H (.int k a) (.int k b) K = letV (.bool (decide (a ≤ b))) fun v => K v H) ∧
    (∀ {P : Program} {H : Heap} (o : Oper) (l : List Value) (k : IntKind) (a b : Int) (K : Value → Heap → Prop), binW P o .gtr l H (.int k a) (.int k b) K = letV (.bool (decide (b < a))) fun v => K v H) ∧
    (∀ {P : Program} {H : Heap} (o : Oper) (l : List Value) (k : IntKind) (a b : Int) (K : Value → Heap → Prop), binW P o .geq l H (.int k a) (.int k b) K = letV (.bool (decide (b ≤ a))) fun v => K v H) ∧
    (∀ {P : Program} (t : TypeId) (b : Bool), unV P .not t (.bool b) = some (.bool (!b))) ∧
    (∀ (l : List Value) (k t : Nat) (v : Value), get (put l (some k) v) t = if k = t then (if k < l.length then v else get l t) else get l t) ∧
    (∀ (l : List Value) (k : Nat) (v : Value), (put l (some k) v).length = l.length) ∧
    (∀ (l : List Value) (v : Value), put l none v = l) ∧
    (∀ (k : IntKind) (n : Int), flat (.int k n) = true) ∧
    (∀ (b : Bool), flat (.bool b) = true) ∧
    (flat (.slice none 0 0) = true) ∧
    (∀ (k : IntKind) (n : Int), flat1 (.int k n) = true) ∧
    (∀ (b : Bool), flat1 (.bool b) = true) ∧
    (∀ (ops : List Oper) (j : Nat), dstAt ops.toArray j = (ops[j]?).bind (·.dst)) ∧
    (∀ (a : Value) (l : List Value), extrV (.tuple (a :: l).toArray) 0 = some a) ∧
    (∀ (a b : Value) (l : List Value), extrV (.tuple (a :: b :: l).toArray) 1 = some b) ∧
    (∀ (a b c : Value) (l : List Value), extrV (.tuple (a :: b :: c :: l).toArray) 2 = some c) ∧
    (∀ (b : Bool) (p q : Prop), letG undef b p q = q) ∧
    (∀ (f : Nat → Nat → Prop), tabOk f [] = True) ∧
    (∀ (f : Nat → Nat → Prop) (i m : Nat) (r : List (Nat × Nat)), tabOk f ((i, m) :: r) = (f i m ∧ tabOk f r)) ∧
    (∀ {P : Program} (os : List Oper) (tr : List (List Value × Heap × Value)) (H1 : Heap) (i m : Nat), rdOk P os.toArray tr H1 i m = rdW P os.toArray os[i]? tr[i]? (trH tr[m]? H1)) ∧
    (∀ {P : Program} {H : Heap} (ops : Array Oper) (d : Option Tmp) (op : Op) (ty : TypeId) (pos : String) (af : Array Edge) (l : List Value) (H' : Heap) (v : Value), rdW P ops (some ⟨d, op, ty, pos, af, none⟩) (some (l, H', v)) H = opW P ⟨d, op, ty, pos, af, none⟩ l H fun v' _ => v' = v) ∧
    (∀ (l : List Value) (H : Heap) (v : Value) (H1 : Heap), trH (some (l, H, v)) H1 = H) ∧
    (∀ (H1 : Heap), trH none H1 = H1) ∧
    (∀ {P : Program} {H : Heap} (o : Oper) (l : List Value) (k : IntKind) (a b : Int) (K : Value → Heap → Prop) (hb : b ≠ 0), binW P o .rem l H (.int k a) (.int k b) K = letV (.int k (a.tmod b)) fun v => K v H) ∧
    (∀ {P : Program} {H : Heap} (o : Oper) (l : List Value) (k : IntKind) (a b : Int) (K : Value → Heap → Prop) (hb : b ≠ 0), binW P o .quo l H (.int k a) (.int k b) K = letV (.int k (k.wrap (a.tdiv b))) fun v => K v H) ∧
    (∀ (l : List Value), flat1 (.agg l.toArray) = l.all scalar) ∧
    (∀ (l : List Value), flat (.agg l.toArray) = l.all scalar) ∧
    (flat1 (.slice none 0 0) = true) ∧
    (flat .nilFunc = true) ∧
    (∀ (k : IntKind) (n : Int), scalar (.int k n) = true) ∧
    (∀ (b : Bool), scalar (.bool b) = true) ∧
    (scalar (.slice none 0 0) = true) ∧
    (∀ (A i e : Nat), isC0 (ptr A i e) = true) ∧
    (∀ (k : IntKind) (n : Int), noTuple (.int k n) = true) ∧
    (∀ (b : Bool), noTuple (.bool b) = true) ∧
    (noTuple (.slice none 0 0) = true) ∧
    (∀ (cs : Array Value), noTuple (.agg cs) = true) :=
  ⟨@letV_eq, @bindV_some, @bindW_some, @andW_true, @pickW_true, @pickW_false, @pickW_bools, @allocW_some, @callW_func, @letG_tt, @letG_ff, @letG_tf, @letG_ft, @condW_true, @condW_false, @lenV_eq, @idxV_eq, @fldV_eq, @fldS_ptr, @binW_add, @binW_sub, @binW_mul, @binW_eql, @binW_neq, @binW_lss, @binW_leq, @binW_gtr, @binW_geq, @unV_not, @get_putS, @put_lengthS, @put_none, @flat_int, @flat_bool, @flat_slice, @flat1_int, @flat1_bool, @dstAt_eq, @extrV_zero, @extrV_one, @extrV_two, @letG_undef, @tabOk_nil, @tabOk_cons, @rdOk_eq, @rdW_some, @trH_some, @trH_none, @binW_rem, @binW_quo, @flat1_agg, @flat_agg, @flat1_nil, @flat_nilFunc, @scalar_int, @scalar_bool, @scalar_nil, @isC0_ptr, @noTuple_int, @noTuple_bool, @noTuple_nil, @noTuple_agg⟩
/-- Small laws of lists and truths, for the symbolic run. -/
theorem RC :
    (∀ (p : Prop), (True ∧ p) = p) ∧
    (∀ (p : Prop), (p ∧ True) = p) ∧
    (∀ {α : Sort 1} {x : Decidable True} (t e : α), (@ite α True x t e) = t) ∧
    (∀ {α : Sort 1} {x : Decidable False} (t e : α), (@ite α False x t e) = e) ∧
    (∀ {x : Decidable True} (t e : Prop), (@ite Prop True x t e) = t) ∧
    (∀ {x : Decidable False} (t e : Prop), (@ite Prop False x t e) = e) ∧
    (∀ (n : Nat), 0 + n = n) ∧
    (∀ (n : Nat), n * 1 = n) ∧
    (∀ (n : Nat), (n : Int).toNat = n) ∧
    (∀ (n : Nat), n + 0 = n) ∧
    (∀ (h : Decidable True), @decide True h = true) ∧
    (∀ (h : Decidable False), @decide False h = false) ∧
    ((!true) = false) ∧
    ((!false) = true) ∧
    (∀ {α : Type} (l : List α), [] ++ l = l) ∧
    (∀ {α : Type} (l : List α), l ++ [] = l) ∧
    (∀ {α : Type} {a : α} {l m : List α}, a :: l ++ m = a :: (l ++ m)) ∧
    (∀ {α : Type} {a : α} {l : List α}, (a :: l)[0]? = some a) ∧
    (∀ {α : Type} {a : α} {i : Nat} {l : List α}, (a :: l)[i + 1]? = l[i]?) ∧
    (∀ {α β : Type} (a : α) (f : α → Option β), (some a).bind f = f a) ∧
    (∀ {α : Type} {x : α} {xs : List α} {d : α}, (x :: xs).getD 0 d = x) ∧
    (∀ {α : Type} {x : α} {xs : List α} {n : Nat} {d : α}, (x :: xs).getD (n + 1) d = xs.getD n d) ∧
    (∀ {α : Type} {a : α} {l : List α}, (a :: l).length = l.length + 1) ∧
    (∀ {α : Type}, ([] : List α).length = 0) ∧
    (∀ {α : Type} {l : List α}, List.drop 0 l = l) ∧
    (∀ {α : Type} {a : α} {l : List α} {i : Nat}, List.take (i + 1) (a :: l) = a :: List.take i l) ∧
    (∀ {α : Type} {l : List α}, List.take 0 l = []) ∧
    (∀ {α : Type} {a : α} {l : List α} {i : Nat}, List.drop (i + 1) (a :: l) = List.drop i l) ∧
    (∀ {α : Type} {a : α} {l : List α} {f : α → Bool}, (a :: l).all f = (f a && l.all f)) ∧
    (∀ {α : Type} {f : α → Bool}, [].all f = true) ∧
    (∀ (b : Bool), (b && true) = b) ∧
    (∀ (b : Bool), (true && b) = b) ∧
    (∀ (b : Bool), (b && b) = b) ∧
    (∀ (cs : List Value) (i : Nat) (v : Value) (vs : List Value), setMany cs i (v :: vs) = setMany (cs.set i v) (i + 1) vs) ∧
    (∀ (cs : List Value) (i : Nat), setMany cs i [] = cs) ∧
    (∀ {α : Type} {x : α} {xs : List α} {a : α}, (x :: xs).set 0 a = a :: xs) ∧
    (∀ {α : Type} {x : α} {xs : List α} {i : Nat} {a : α}, (x :: xs).set (i + 1) a = x :: xs.set i a) ∧
    ((¬True) = False) ∧
    ((¬False) = True) ∧
    (∀ {p : Prop} [Decidable p], ¬¬p ↔ p) ∧
    (∀ {n : Nat}, ((OfNat.ofNat n : Nat) : Int) = OfNat.ofNat n) :=
  ⟨@true_and, @and_true, @if_true, @if_false, @if_true Prop, @if_false Prop, @Nat.zero_add, @Nat.mul_one, @Int.toNat_natCast, @Nat.add_zero, @decide_true, @decide_false, Bool.not_true, Bool.not_false, @List.nil_append, @List.append_nil, @List.cons_append, @List.getElem?_cons_zero, @List.getElem?_cons_succ, @Option.bind_some, @List.getD_cons_zero, @List.getD_cons_succ, @List.length_cons, @List.length_nil, @List.drop_zero, @List.take_succ_cons, @List.take_zero, @List.drop_succ_cons, @List.all_cons, @List.all_nil, @Bool.and_true, @Bool.true_and, @Bool.and_self, @setMany_cons, @setMany_nil, @List.set_cons_zero, @List.set_cons_succ, not_true_eq_false, not_false_eq_true, @Decidable.not_not, @Int.cast_ofNat_Int⟩
end Go.Ds
/-
  What the types of the seat's program say: closed facts, each told by the kernel.
-/
namespace Go.Ds
open Go.Proofs
theorem tA3 : aggP Try.prog 3 = some false := by kernel_rfl
theorem tS3 : sizeP Try.prog 3 = some 1 := by kernel_rfl
theorem tA4 : aggP Try.prog 4 = some false := by kernel_rfl
theorem tS4 : sizeP Try.prog 4 = some 1 := by kernel_rfl
theorem tA5 : aggP Try.prog 5 = some false := by kernel_rfl
theorem tS5 : sizeP Try.prog 5 = some 1 := by kernel_rfl
theorem tA22 : aggP Try.prog 22 = some false := by kernel_rfl
theorem tS22 : sizeP Try.prog 22 = some 1 := by kernel_rfl
theorem tE22 : sliceSz Try.prog 22 = some 2 := by kernel_rfl
theorem tP22 : appOk Try.prog 22 = some (2, 2) := by kernel_rfl
theorem tN22 : notIntT Try.prog 22 = true := by kernel_rfl
theorem tF22 : ((sliceElem Try.prog 22).bind (zeroP Try.prog)).any flat1 = true := by kernel_rfl
theorem tA25 : aggP Try.prog 25 = some false := by kernel_rfl
theorem tS25 : sizeP Try.prog 25 = some 1 := by kernel_rfl
theorem tE25 : sliceSz Try.prog 25 = some 2 := by kernel_rfl
theorem tP25 : appOk Try.prog 25 = some (2, 16) := by kernel_rfl
theorem tN25 : notIntT Try.prog 25 = true := by kernel_rfl
theorem tF25 : ((sliceElem Try.prog 25).bind (zeroP Try.prog)).any flat1 = true := by kernel_rfl
theorem tA27 : aggP Try.prog 27 = some true := by kernel_rfl
theorem tS27 : sizeP Try.prog 27 = some 2 := by kernel_rfl
theorem tA29 : aggP Try.prog 29 = some false := by kernel_rfl
theorem tS29 : sizeP Try.prog 29 = some 1 := by kernel_rfl
theorem tE29 : sliceSz Try.prog 29 = some 1 := by kernel_rfl
theorem tP29 : appOk Try.prog 29 = some (1, 8) := by kernel_rfl
theorem tN29 : notIntT Try.prog 29 = true := by kernel_rfl
theorem tF29 : ((sliceElem Try.prog 29).bind (zeroP Try.prog)).any flat1 = true := by kernel_rfl
theorem tA30 : aggP Try.prog 30 = some false := by kernel_rfl
theorem tS30 : sizeP Try.prog 30 = some 1 := by kernel_rfl
theorem tA33 : aggP Try.prog 33 = some false := by kernel_rfl
theorem tS33 : sizeP Try.prog 33 = some 1 := by kernel_rfl
theorem tE33 : sliceSz Try.prog 33 = some 1 := by kernel_rfl
theorem tP33 : appOk Try.prog 33 = some (1, 24) := by kernel_rfl
theorem tN33 : notIntT Try.prog 33 = true := by kernel_rfl
theorem tF33 : ((sliceElem Try.prog 33).bind (zeroP Try.prog)).any flat1 = true := by kernel_rfl
theorem tA35 : aggP Try.prog 35 = some false := by kernel_rfl
theorem tS35 : sizeP Try.prog 35 = some 1 := by kernel_rfl
theorem tE35 : sliceSz Try.prog 35 = some 2 := by kernel_rfl
theorem tP35 : appOk Try.prog 35 = some (2, 16) := by kernel_rfl
theorem tN35 : notIntT Try.prog 35 = true := by kernel_rfl
theorem tF35 : ((sliceElem Try.prog 35).bind (zeroP Try.prog)).any flat1 = true := by kernel_rfl
theorem tA48 : aggP Try.prog 48 = some true := by kernel_rfl
theorem tS48 : sizeP Try.prog 48 = some 2 := by kernel_rfl
theorem tA60 : aggP Try.prog 60 = some true := by kernel_rfl
theorem tS60 : sizeP Try.prog 60 = some 2 := by kernel_rfl
theorem tA64 : aggP Try.prog 64 = some true := by kernel_rfl
theorem tS64 : sizeP Try.prog 64 = some 2 := by kernel_rfl
theorem tA69 : aggP Try.prog 69 = some false := by kernel_rfl
theorem tS69 : sizeP Try.prog 69 = some 1 := by kernel_rfl
theorem tE69 : sliceSz Try.prog 69 = some 1 := by kernel_rfl
theorem tP69 : appOk Try.prog 69 = some (1, 1) := by kernel_rfl
theorem tN69 : notIntT Try.prog 69 = true := by kernel_rfl
theorem tF69 : ((sliceElem Try.prog 69).bind (zeroP Try.prog)).any flat1 = true := by kernel_rfl
theorem tA71 : aggP Try.prog 71 = some false := by kernel_rfl
theorem tS71 : sizeP Try.prog 71 = some 1 := by kernel_rfl
theorem tE71 : sliceSz Try.prog 71 = some 1 := by kernel_rfl
theorem tP71 : appOk Try.prog 71 = some (1, 24) := by kernel_rfl
theorem tN71 : notIntT Try.prog 71 = true := by kernel_rfl
theorem tF71 : ((sliceElem Try.prog 71).bind (zeroP Try.prog)).any flat1 = true := by kernel_rfl
theorem tO27_0 : fldOff Try.prog 27 0 = some 0 := by kernel_rfl
theorem tO27_1 : fldOff Try.prog 27 1 = some 1 := by kernel_rfl
theorem tO48_0 : fldOff Try.prog 48 0 = some 0 := by kernel_rfl
theorem tO48_1 : fldOff Try.prog 48 1 = some 1 := by kernel_rfl
theorem tO60_0 : fldOff Try.prog 60 0 = some 0 := by kernel_rfl
theorem tO60_1 : fldOff Try.prog 60 1 = some 1 := by kernel_rfl
theorem tO64_0 : fldOff Try.prog 64 0 = some 0 := by kernel_rfl
theorem tO64_1 : fldOff Try.prog 64 1 = some 1 := by kernel_rfl
theorem tZ3 : zeroP Try.prog 3 = some (.int .i64 0) := by kernel_rfl
theorem tZ4 : zeroP Try.prog 4 = some (.bool false) := by kernel_rfl
theorem tZ27 : zeroP Try.prog 27 = some (.agg #[.int .i64 0, .slice none 0 0]) := by kernel_rfl
theorem tZ29 : zeroP Try.prog 29 = some (.slice none 0 0) := by kernel_rfl
theorem tZ48 : zeroP Try.prog 48 = some (.agg #[.int .i64 0, .int .i64 0]) := by kernel_rfl
theorem tZ33 : zeroP Try.prog 33 = some (.slice none 0 0) := by kernel_rfl
theorem tM29 : mkOk Try.prog 29 = some (8, .int .i64 0) := by kernel_rfl
theorem tM33 : mkOk Try.prog 33 = some (24, .slice none 0 0) := by kernel_rfl
theorem tM69 : mkOk Try.prog 69 = some (1, .bool false) := by kernel_rfl
theorem tM71 : mkOk Try.prog 71 = some (24, .slice none 0 0) := by kernel_rfl
theorem hmix : Try.prog.follows .mixedOrders = true := by kernel_rfl
theorem tC5_3 (n : Int) : convV Try.prog 5 3 (.int .u8 n) = some (.int .i64 (IntKind.i64.wrap n)) := by kernel_rfl
theorem tC3_85 (n : Int) : convV Try.prog 3 85 (.int .i64 n) = some (.int .u64 (IntKind.u64.wrap n)) := by kernel_rfl
theorem tC85_3 (n : Int) : convV Try.prog 85 3 (.int .u64 n) = some (.int .i64 (IntKind.i64.wrap n)) := by kernel_rfl
theorem tB27 (a : Int) : builtV Try.prog 27 [(0, .int .i64 a)] = some (.agg #[.int .i64 a, .slice none 0 0]) := by kernel_rfl
theorem tB48 (a b : Int) : builtV Try.prog 48 [(0, .int .i64 a), (1, .int .i64 b)] = some (.agg #[.int .i64 a, .int .i64 b]) := by kernel_rfl
theorem tB64 (a b : Int) : builtV Try.prog 64 [(0, .int .i64 a), (1, .int .i64 b)] = some (.agg #[.int .i64 a, .int .i64 b]) := by kernel_rfl
theorem tR3 (l : List Value) (H : Heap) : resultsD Try.prog Try.f3 l H = some (get l 6) := rfl
theorem tR4 (l : List Value) (H : Heap) : resultsD Try.prog Try.f4 l H = some (get l 4) := rfl
theorem tR5 (l : List Value) (H : Heap) : resultsD Try.prog Try.f5 l H = some (get l 4) := rfl
theorem tR6 (l : List Value) (H : Heap) : resultsD Try.prog Try.f6 l H = some (get l 6) := rfl
theorem tR7 (l : List Value) (H : Heap) : resultsD Try.prog Try.f7 l H = some (get l 2) := rfl
theorem tR8 (l : List Value) (H : Heap) : resultsD Try.prog Try.f8 l H = some (get l 4) := rfl
theorem tR9 (l : List Value) (H : Heap) : resultsD Try.prog Try.f9 l H = some (get l 4) := rfl
theorem tR10 (l : List Value) (H : Heap) : resultsD Try.prog Try.f10 l H = some (get l 4) := rfl
theorem tR11 (l : List Value) (H : Heap) : resultsD Try.prog Try.f11 l H = some (get l 4) := rfl
theorem tR12 (l : List Value) (H : Heap) : resultsD Try.prog Try.f12 l H = some (get l 0) := rfl
theorem tR13 (l : List Value) (H : Heap) : resultsD Try.prog Try.f13 l H = ldW (aggP Try.prog 27) (sizeP Try.prog 27) H (get l 4) := by
  show (Option.bind (Option.bind (loadD Try.prog H 27 (get l 4)) fun v => some [v]) fun vs => _) = _
  rw [loadD_eq]
  cases ldW _ _ H (get l 4) <;> rfl
theorem tR14 (l : List Value) (H : Heap) : resultsD Try.prog Try.f14 l H = if (noTuple (get l 6) && (noTuple (get l 7) && (noTuple (get l 8) && true))) = true then some (.tuple #[get l 6, get l 7, get l 8]) else none := rfl
theorem tR15 (l : List Value) (H : Heap) : resultsD Try.prog Try.f15 l H = some (get l 4) := rfl
theorem tR16 (l : List Value) (H : Heap) : resultsD Try.prog Try.f16 l H = some (get l 2) := rfl
theorem tR17 (l : List Value) (H : Heap) : resultsD Try.prog Try.f17 l H = some (get l 4) := rfl
theorem tR18 (l : List Value) (H : Heap) : resultsD Try.prog Try.f18 l H = some (get l 8) := rfl
theorem tR19 (l : List Value) (H : Heap) : resultsD Try.prog Try.f19 l H = if (noTuple (get l 2) && (noTuple (get l 3) && (noTuple (get l 4) && true))) = true then some (.tuple #[get l 2, get l 3, get l 4]) else none := rfl
theorem tR20 (l : List Value) (H : Heap) : resultsD Try.prog Try.f20 l H = some (get l 4) := rfl
theorem tR21 (l : List Value) (H : Heap) : resultsD Try.prog Try.f21 l H = if (noTuple (get l 2) && (noTuple (get l 3) && true)) = true then some (.tuple #[get l 2, get l 3]) else none := rfl
theorem tR22 (l : List Value) (H : Heap) : resultsD Try.prog Try.f22 l H = if (noTuple (get l 2) && (noTuple (get l 3) && true)) = true then some (.tuple #[get l 2, get l 3]) else none := rfl
theorem tR23 (l : List Value) (H : Heap) : resultsD Try.prog Try.f23 l H = some (get l 4) := rfl
theorem tR24 (l : List Value) (H : Heap) : resultsD Try.prog Try.f24 l H = some (get l 4) := rfl
theorem tR25 (l : List Value) (H : Heap) : resultsD Try.prog Try.f25 l H = if (noTuple (get l 4) && (noTuple (get l 5) && true)) = true then some (.tuple #[get l 4, get l 5]) else none := rfl
theorem tR26 (l : List Value) (H : Heap) : resultsD Try.prog Try.f26 l H = if (noTuple (get l 4) && (noTuple (get l 5) && true)) = true then some (.tuple #[get l 4, get l 5]) else none := rfl
theorem tR29 (l : List Value) (H : Heap) : resultsD Try.prog Try.f29 l H = if (noTuple (get l 2) && (noTuple (get l 3) && true)) = true then some (.tuple #[get l 2, get l 3]) else none := rfl
theorem tR30 (l : List Value) (H : Heap) : resultsD Try.prog Try.f30 l H = some (get l 4) := rfl
theorem tR31 (l : List Value) (H : Heap) : resultsD Try.prog Try.f31 l H = some (get l 4) := rfl
theorem tR32 (l : List Value) (H : Heap) : resultsD Try.prog Try.f32 l H = if (noTuple (get l 2) && (noTuple (get l 3) && true)) = true then some (.tuple #[get l 2, get l 3]) else none := rfl
theorem tR34 (l : List Value) (H : Heap) : resultsD Try.prog Try.f34 l H = some (get l 2) := rfl
theorem tR35 (l : List Value) (H : Heap) : resultsD Try.prog Try.f35 l H = some (get l 2) := rfl
theorem tR36 (l : List Value) (H : Heap) : resultsD Try.prog Try.f36 l H = ldW (aggP Try.prog 27) (sizeP Try.prog 27) H (get l 4) := by
  show (Option.bind (Option.bind (loadD Try.prog H 27 (get l 4)) fun v => some [v]) fun vs => _) = _
  rw [loadD_eq]
  cases ldW _ _ H (get l 4) <;> rfl
theorem tR37 (l : List Value) (H : Heap) : resultsD Try.prog Try.f37 l H = some (get l 4) := rfl
theorem tR38 (l : List Value) (H : Heap) : resultsD Try.prog Try.f38 l H = if (noTuple (get l 8) && (noTuple (get l 9) && true)) = true then some (.tuple #[get l 8, get l 9]) else none := rfl
theorem tR39 (l : List Value) (H : Heap) : resultsD Try.prog Try.f39 l H = some (get l 4) := rfl
theorem tR40 (l : List Value) (H : Heap) : resultsD Try.prog Try.f40 l H = some (get l 4) := rfl
theorem tR41 (l : List Value) (H : Heap) : resultsD Try.prog Try.f41 l H = some (get l 4) := rfl
theorem tR42 (l : List Value) (H : Heap) : resultsD Try.prog Try.f42 l H = some (get l 6) := rfl
theorem tR43 (l : List Value) (H : Heap) : resultsD Try.prog Try.f43 l H = some (get l 2) := rfl
theorem tR44 (l : List Value) (H : Heap) : resultsD Try.prog Try.f44 l H = ldW (aggP Try.prog 27) (sizeP Try.prog 27) H (get l 2) := by
  show (Option.bind (Option.bind (loadD Try.prog H 27 (get l 2)) fun v => some [v]) fun vs => _) = _
  rw [loadD_eq]
  cases ldW _ _ H (get l 2) <;> rfl
theorem tR45 (l : List Value) (H : Heap) : resultsD Try.prog Try.f45 l H = if (noTuple (get l 2) && (noTuple (get l 3) && true)) = true then some (.tuple #[get l 2, get l 3]) else none := rfl
theorem tR46 (l : List Value) (H : Heap) : resultsD Try.prog Try.f46 l H = ldW (aggP Try.prog 27) (sizeP Try.prog 27) H (get l 4) := by
  show (Option.bind (Option.bind (loadD Try.prog H 27 (get l 4)) fun v => some [v]) fun vs => _) = _
  rw [loadD_eq]
  cases ldW _ _ H (get l 4) <;> rfl
theorem tR47 (l : List Value) (H : Heap) : resultsD Try.prog Try.f47 l H = some (get l 4) := rfl
theorem tR48 (l : List Value) (H : Heap) : resultsD Try.prog Try.f48 l H = some (get l 4) := rfl
theorem tR49 (l : List Value) (H : Heap) : resultsD Try.prog Try.f49 l H = some (get l 3) := rfl
theorem tR50 (l : List Value) (H : Heap) : resultsD Try.prog Try.f50 l H = some (.tuple #[]) := rfl
theorem tR51 (l : List Value) (H : Heap) : resultsD Try.prog Try.f51 l H = some (get l 4) := rfl
theorem tR52 (l : List Value) (H : Heap) : resultsD Try.prog Try.f52 l H = some (.tuple #[]) := rfl
theorem tR53 (l : List Value) (H : Heap) : resultsD Try.prog Try.f53 l H = some (get l 4) := rfl
theorem tR54 (l : List Value) (H : Heap) : resultsD Try.prog Try.f54 l H = some (get l 2) := rfl
theorem tR55 (l : List Value) (H : Heap) : resultsD Try.prog Try.f55 l H = some (get l 4) := rfl
theorem tR56 (l : List Value) (H : Heap) : resultsD Try.prog Try.f56 l H = if (noTuple (get l 4) && (noTuple (get l 5) && true)) = true then some (.tuple #[get l 4, get l 5]) else none := rfl
theorem tR57 (l : List Value) (H : Heap) : resultsD Try.prog Try.f57 l H = some (.tuple #[]) := rfl
theorem tR58 (l : List Value) (H : Heap) : resultsD Try.prog Try.f58 l H = some (get l 2) := rfl
theorem tR59 (l : List Value) (H : Heap) : resultsD Try.prog Try.f59 l H = if (noTuple (get l 4) && (noTuple (get l 5) && true)) = true then some (.tuple #[get l 4, get l 5]) else none := rfl
theorem tR60 (l : List Value) (H : Heap) : resultsD Try.prog Try.f60 l H = if (noTuple (get l 4) && (noTuple (get l 5) && true)) = true then some (.tuple #[get l 4, get l 5]) else none := rfl
theorem tR61 (l : List Value) (H : Heap) : resultsD Try.prog Try.f61 l H = some (.tuple #[]) := rfl
theorem tR62 (l : List Value) (H : Heap) : resultsD Try.prog Try.f62 l H = some (.tuple #[]) := rfl
theorem tR63 (l : List Value) (H : Heap) : resultsD Try.prog Try.f63 l H = some (.tuple #[]) := rfl
theorem tR64 (l : List Value) (H : Heap) : resultsD Try.prog Try.f64 l H = if (noTuple (get l 8) && (noTuple (get l 9) && true)) = true then some (.tuple #[get l 8, get l 9]) else none := rfl
theorem tR65 (l : List Value) (H : Heap) : resultsD Try.prog Try.f65 l H = some (.tuple #[]) := rfl
theorem tR66 (l : List Value) (H : Heap) : resultsD Try.prog Try.f66 l H = some (get l 8) := rfl
theorem tR67 (l : List Value) (H : Heap) : resultsD Try.prog Try.f67 l H = some (get l 10) := rfl
theorem tR68 (l : List Value) (H : Heap) : resultsD Try.prog Try.f68 l H = if (noTuple (get l 10) && (noTuple (get l 11) && true)) = true then some (.tuple #[get l 10, get l 11]) else none := rfl
theorem tR69 (l : List Value) (H : Heap) : resultsD Try.prog Try.f69 l H = some (get l 2) := rfl
theorem tR70 (l : List Value) (H : Heap) : resultsD Try.prog Try.f70 l H = some (get l 2) := rfl
theorem tR71 (l : List Value) (H : Heap) : resultsD Try.prog Try.f71 l H = some (.tuple #[]) := rfl
theorem tR72 (l : List Value) (H : Heap) : resultsD Try.prog Try.f72 l H = some (get l 2) := rfl
theorem tR73 (l : List Value) (H : Heap) : resultsD Try.prog Try.f73 l H = some (get l 2) := rfl
theorem tR74 (l : List Value) (H : Heap) : resultsD Try.prog Try.f74 l H = some (get l 8) := rfl
theorem tR75 (l : List Value) (H : Heap) : resultsD Try.prog Try.f75 l H = some (get l 12) := rfl
theorem tR76 (l : List Value) (H : Heap) : resultsD Try.prog Try.f76 l H = if (noTuple (get l 10) && (noTuple (get l 11) && true)) = true then some (.tuple #[get l 10, get l 11]) else none := rfl
theorem TS :
    (∀ (n : Int), convV Try.prog 5 3 (.int .u8 n) = some (.int .i64 (IntKind.i64.wrap n))) ∧
    (∀ (n : Int), convV Try.prog 3 85 (.int .i64 n) = some (.int .u64 (IntKind.u64.wrap n))) ∧
    (∀ (n : Int), convV Try.prog 85 3 (.int .u64 n) = some (.int .i64 (IntKind.i64.wrap n))) ∧
    (∀ (a : Int), builtV Try.prog 27 [(0, .int .i64 a)] = some (.agg #[.int .i64 a, .slice none 0 0])) ∧
    (∀ (a b : Int), builtV Try.prog 48 [(0, .int .i64 a), (1, .int .i64 b)] = some (.agg #[.int .i64 a, .int .i64 b])) ∧
    (∀ (a b : Int), builtV Try.prog 64 [(0, .int .i64 a), (1, .int .i64 b)] = some (.agg #[.int .i64 a, .int .i64 b])) ∧
    (aggP Try.prog 3 = some false) ∧
    (sizeP Try.prog 3 = some 1) ∧
    (aggP Try.prog 4 = some false) ∧
    (sizeP Try.prog 4 = some 1) ∧
    (aggP Try.prog 5 = some false) ∧
    (sizeP Try.prog 5 = some 1) ∧
    (aggP Try.prog 22 = some false) ∧
    (sizeP Try.prog 22 = some 1) ∧
    (sliceSz Try.prog 22 = some 2) ∧
    (notIntT Try.prog 22 = true) ∧
    (aggP Try.prog 25 = some false) ∧
    (sizeP Try.prog 25 = some 1) ∧
    (sliceSz Try.prog 25 = some 2) ∧
    (notIntT Try.prog 25 = true) ∧
    (aggP Try.prog 27 = some true) ∧
    (sizeP Try.prog 27 = some 2) ∧
    (aggP Try.prog 29 = some false) ∧
    (sizeP Try.prog 29 = some 1) ∧
    (sliceSz Try.prog 29 = some 1) ∧
    (notIntT Try.prog 29 = true) ∧
    (aggP Try.prog 30 = some false) ∧
    (sizeP Try.prog 30 = some 1) ∧
    (aggP Try.prog 33 = some false) ∧
    (sizeP Try.prog 33 = some 1) ∧
    (sliceSz Try.prog 33 = some 1) ∧
    (notIntT Try.prog 33 = true) ∧
    (aggP Try.prog 35 = some false) ∧
    (sizeP Try.prog 35 = some 1) ∧
    (sliceSz Try.prog 35 = some 2) ∧
    (notIntT Try.prog 35 = true) ∧
    (aggP Try.prog 48 = some true) ∧
    (sizeP Try.prog 48 = some 2) ∧
    (aggP Try.prog 60 = some true) ∧
    (sizeP Try.prog 60 = some 2) ∧
    (aggP Try.prog 64 = some true) ∧
    (sizeP Try.prog 64 = some 2) ∧
    (aggP Try.prog 69 = some false) ∧
    (sizeP Try.prog 69 = some 1) ∧
    (sliceSz Try.prog 69 = some 1) ∧
    (notIntT Try.prog 69 = true) ∧
    (aggP Try.prog 71 = some false) ∧
    (sizeP Try.prog 71 = some 1) ∧
    (sliceSz Try.prog 71 = some 1) ∧
    (notIntT Try.prog 71 = true) ∧
    (fldOff Try.prog 27 0 = some 0) ∧
    (fldOff Try.prog 27 1 = some 1) ∧
    (fldOff Try.prog 48 0 = some 0) ∧
    (fldOff Try.prog 48 1 = some 1) ∧
    (fldOff Try.prog 60 0 = some 0) ∧
    (fldOff Try.prog 60 1 = some 1) ∧
    (fldOff Try.prog 64 0 = some 0) ∧
    (fldOff Try.prog 64 1 = some 1) ∧
    (zeroP Try.prog 3 = some (.int .i64 0)) ∧
    (zeroP Try.prog 4 = some (.bool false)) ∧
    (zeroP Try.prog 27 = some (.agg #[.int .i64 0, .slice none 0 0])) ∧
    (zeroP Try.prog 29 = some (.slice none 0 0)) ∧
    (zeroP Try.prog 48 = some (.agg #[.int .i64 0, .int .i64 0])) ∧
    (zeroP Try.prog 33 = some (.slice none 0 0)) :=
  ⟨@tC5_3, @tC3_85, @tC85_3, @tB27, @tB48, @tB64, @tA3, @tS3, @tA4, @tS4, @tA5, @tS5, @tA22, @tS22, @tE22, @tN22, @tA25, @tS25, @tE25, @tN25, @tA27, @tS27, @tA29, @tS29, @tE29, @tN29, @tA30, @tS30, @tA33, @tS33, @tE33, @tN33, @tA35, @tS35, @tE35, @tN35, @tA48, @tS48, @tA60, @tS60, @tA64, @tS64, @tA69, @tS69, @tE69, @tN69, @tA71, @tS71, @tE71, @tN71, @tO27_0, @tO27_1, @tO48_0, @tO48_1, @tO60_0, @tO60_1, @tO64_0, @tO64_1, @tZ3, @tZ4, @tZ27, @tZ29, @tZ48, @tZ33⟩
theorem TR :
    (∀ (l : List Value) (H : Heap), resultsD Try.prog Try.f3 l H = some (get l 6)) ∧
    (∀ (l : List Value) (H : Heap), resultsD Try.prog Try.f4 l H = some (get l 4)) ∧
    (∀ (l : List Value) (H : Heap), resultsD Try.prog Try.f5 l H = some (get l 4)) ∧
    (∀ (l : List Value) (H : Heap), resultsD Try.prog Try.f6 l H = some (get l 6)) ∧
    (∀ (l : List Value) (H : Heap), resultsD Try.prog Try.f7 l H = some (get l 2)) ∧
    (∀ (l : List Value) (H : Heap), resultsD Try.prog Try.f8 l H = some (get l 4)) ∧
    (∀ (l : List Value) (H : Heap), resultsD Try.prog Try.f9 l H = some (get l 4)) ∧
    (∀ (l : List Value) (H : Heap), resultsD Try.prog Try.f10 l H = some (get l 4)) ∧
    (∀ (l : List Value) (H : Heap), resultsD Try.prog Try.f11 l H = some (get l 4)) ∧
    (∀ (l : List Value) (H : Heap), resultsD Try.prog Try.f12 l H = some (get l 0)) ∧
    (∀ (l : List Value) (H : Heap), resultsD Try.prog Try.f13 l H = ldW (aggP Try.prog 27) (sizeP Try.prog 27) H (get l 4)) ∧
    (∀ (l : List Value) (H : Heap), resultsD Try.prog Try.f14 l H = if (noTuple (get l 6) && (noTuple (get l 7) && (noTuple (get l 8) && true))) = true then some (.tuple #[get l 6, get l 7, get l 8]) else none) ∧
    (∀ (l : List Value) (H : Heap), resultsD Try.prog Try.f15 l H = some (get l 4)) ∧
    (∀ (l : List Value) (H : Heap), resultsD Try.prog Try.f16 l H = some (get l 2)) ∧
    (∀ (l : List Value) (H : Heap), resultsD Try.prog Try.f17 l H = some (get l 4)) ∧
    (∀ (l : List Value) (H : Heap), resultsD Try.prog Try.f18 l H = some (get l 8)) ∧
    (∀ (l : List Value) (H : Heap), resultsD Try.prog Try.f19 l H = if (noTuple (get l 2) && (noTuple (get l 3) && (noTuple (get l 4) && true))) = true then some (.tuple #[get l 2, get l 3, get l 4]) else none) ∧
    (∀ (l : List Value) (H : Heap), resultsD Try.prog Try.f20 l H = some (get l 4)) ∧
    (∀ (l : List Value) (H : Heap), resultsD Try.prog Try.f21 l H = if (noTuple (get l 2) && (noTuple (get l 3) && true)) = true then some (.tuple #[get l 2, get l 3]) else none) ∧
    (∀ (l : List Value) (H : Heap), resultsD Try.prog Try.f22 l H = if (noTuple (get l 2) && (noTuple (get l 3) && true)) = true then some (.tuple #[get l 2, get l 3]) else none) ∧
    (∀ (l : List Value) (H : Heap), resultsD Try.prog Try.f23 l H = some (get l 4)) ∧
    (∀ (l : List Value) (H : Heap), resultsD Try.prog Try.f24 l H = some (get l 4)) ∧
    (∀ (l : List Value) (H : Heap), resultsD Try.prog Try.f25 l H = if (noTuple (get l 4) && (noTuple (get l 5) && true)) = true then some (.tuple #[get l 4, get l 5]) else none) ∧
    (∀ (l : List Value) (H : Heap), resultsD Try.prog Try.f26 l H = if (noTuple (get l 4) && (noTuple (get l 5) && true)) = true then some (.tuple #[get l 4, get l 5]) else none) ∧
    (∀ (l : List Value) (H : Heap), resultsD Try.prog Try.f29 l H = if (noTuple (get l 2) && (noTuple (get l 3) && true)) = true then some (.tuple #[get l 2, get l 3]) else none) ∧
    (∀ (l : List Value) (H : Heap), resultsD Try.prog Try.f30 l H = some (get l 4)) ∧
    (∀ (l : List Value) (H : Heap), resultsD Try.prog Try.f31 l H = some (get l 4)) ∧
    (∀ (l : List Value) (H : Heap), resultsD Try.prog Try.f32 l H = if (noTuple (get l 2) && (noTuple (get l 3) && true)) = true then some (.tuple #[get l 2, get l 3]) else none) ∧
    (∀ (l : List Value) (H : Heap), resultsD Try.prog Try.f34 l H = some (get l 2)) ∧
    (∀ (l : List Value) (H : Heap), resultsD Try.prog Try.f35 l H = some (get l 2)) ∧
    (∀ (l : List Value) (H : Heap), resultsD Try.prog Try.f36 l H = ldW (aggP Try.prog 27) (sizeP Try.prog 27) H (get l 4)) ∧
    (∀ (l : List Value) (H : Heap), resultsD Try.prog Try.f37 l H = some (get l 4)) ∧
    (∀ (l : List Value) (H : Heap), resultsD Try.prog Try.f38 l H = if (noTuple (get l 8) && (noTuple (get l 9) && true)) = true then some (.tuple #[get l 8, get l 9]) else none) ∧
    (∀ (l : List Value) (H : Heap), resultsD Try.prog Try.f39 l H = some (get l 4)) ∧
    (∀ (l : List Value) (H : Heap), resultsD Try.prog Try.f40 l H = some (get l 4)) ∧
    (∀ (l : List Value) (H : Heap), resultsD Try.prog Try.f41 l H = some (get l 4)) ∧
    (∀ (l : List Value) (H : Heap), resultsD Try.prog Try.f42 l H = some (get l 6)) ∧
    (∀ (l : List Value) (H : Heap), resultsD Try.prog Try.f43 l H = some (get l 2)) ∧
    (∀ (l : List Value) (H : Heap), resultsD Try.prog Try.f44 l H = ldW (aggP Try.prog 27) (sizeP Try.prog 27) H (get l 2)) ∧
    (∀ (l : List Value) (H : Heap), resultsD Try.prog Try.f45 l H = if (noTuple (get l 2) && (noTuple (get l 3) && true)) = true then some (.tuple #[get l 2, get l 3]) else none) ∧
    (∀ (l : List Value) (H : Heap), resultsD Try.prog Try.f46 l H = ldW (aggP Try.prog 27) (sizeP Try.prog 27) H (get l 4)) ∧
    (∀ (l : List Value) (H : Heap), resultsD Try.prog Try.f47 l H = some (get l 4)) ∧
    (∀ (l : List Value) (H : Heap), resultsD Try.prog Try.f48 l H = some (get l 4)) ∧
    (∀ (l : List Value) (H : Heap), resultsD Try.prog Try.f49 l H = some (get l 3)) ∧
    (∀ (l : List Value) (H : Heap), resultsD Try.prog Try.f50 l H = some (.tuple #[])) ∧
    (∀ (l : List Value) (H : Heap), resultsD Try.prog Try.f51 l H = some (get l 4)) ∧
    (∀ (l : List Value) (H : Heap), resultsD Try.prog Try.f52 l H = some (.tuple #[])) ∧
    (∀ (l : List Value) (H : Heap), resultsD Try.prog Try.f53 l H = some (get l 4)) ∧
    (∀ (l : List Value) (H : Heap), resultsD Try.prog Try.f54 l H = some (get l 2)) ∧
    (∀ (l : List Value) (H : Heap), resultsD Try.prog Try.f55 l H = some (get l 4)) ∧
    (∀ (l : List Value) (H : Heap), resultsD Try.prog Try.f56 l H = if (noTuple (get l 4) && (noTuple (get l 5) && true)) = true then some (.tuple #[get l 4, get l 5]) else none) ∧
    (∀ (l : List Value) (H : Heap), resultsD Try.prog Try.f57 l H = some (.tuple #[])) ∧
    (∀ (l : List Value) (H : Heap), resultsD Try.prog Try.f58 l H = some (get l 2)) ∧
    (∀ (l : List Value) (H : Heap), resultsD Try.prog Try.f59 l H = if (noTuple (get l 4) && (noTuple (get l 5) && true)) = true then some (.tuple #[get l 4, get l 5]) else none) ∧
    (∀ (l : List Value) (H : Heap), resultsD Try.prog Try.f60 l H = if (noTuple (get l 4) && (noTuple (get l 5) && true)) = true then some (.tuple #[get l 4, get l 5]) else none) ∧
    (∀ (l : List Value) (H : Heap), resultsD Try.prog Try.f61 l H = some (.tuple #[])) ∧
    (∀ (l : List Value) (H : Heap), resultsD Try.prog Try.f62 l H = some (.tuple #[])) ∧
    (∀ (l : List Value) (H : Heap), resultsD Try.prog Try.f63 l H = some (.tuple #[])) ∧
    (∀ (l : List Value) (H : Heap), resultsD Try.prog Try.f64 l H = if (noTuple (get l 8) && (noTuple (get l 9) && true)) = true then some (.tuple #[get l 8, get l 9]) else none) ∧
    (∀ (l : List Value) (H : Heap), resultsD Try.prog Try.f65 l H = some (.tuple #[])) ∧
    (∀ (l : List Value) (H : Heap), resultsD Try.prog Try.f66 l H = some (get l 8)) ∧
    (∀ (l : List Value) (H : Heap), resultsD Try.prog Try.f67 l H = some (get l 10)) ∧
    (∀ (l : List Value) (H : Heap), resultsD Try.prog Try.f68 l H = if (noTuple (get l 10) && (noTuple (get l 11) && true)) = true then some (.tuple #[get l 10, get l 11]) else none) ∧
    (∀ (l : List Value) (H : Heap), resultsD Try.prog Try.f69 l H = some (get l 2)) ∧
    (∀ (l : List Value) (H : Heap), resultsD Try.prog Try.f70 l H = some (get l 2)) ∧
    (∀ (l : List Value) (H : Heap), resultsD Try.prog Try.f71 l H = some (.tuple #[])) ∧
    (∀ (l : List Value) (H : Heap), resultsD Try.prog Try.f72 l H = some (get l 2)) ∧
    (∀ (l : List Value) (H : Heap), resultsD Try.prog Try.f73 l H = some (get l 2)) ∧
    (∀ (l : List Value) (H : Heap), resultsD Try.prog Try.f74 l H = some (get l 8)) ∧
    (∀ (l : List Value) (H : Heap), resultsD Try.prog Try.f75 l H = some (get l 12)) ∧
    (∀ (l : List Value) (H : Heap), resultsD Try.prog Try.f76 l H = if (noTuple (get l 10) && (noTuple (get l 11) && true)) = true then some (.tuple #[get l 10, get l 11]) else none) :=
  ⟨@tR3, @tR4, @tR5, @tR6, @tR7, @tR8, @tR9, @tR10, @tR11, @tR12, @tR13, @tR14, @tR15, @tR16, @tR17, @tR18, @tR19, @tR20, @tR21, @tR22, @tR23, @tR24, @tR25, @tR26, @tR29, @tR30, @tR31, @tR32, @tR34, @tR35, @tR36, @tR37, @tR38, @tR39, @tR40, @tR41, @tR42, @tR43, @tR44, @tR45, @tR46, @tR47, @tR48, @tR49, @tR50, @tR51, @tR52, @tR53, @tR54, @tR55, @tR56, @tR57, @tR58, @tR59, @tR60, @tR61, @tR62, @tR63, @tR64, @tR65, @tR66, @tR67, @tR68, @tR69, @tR70, @tR71, @tR72, @tR73, @tR74, @tR75, @tR76⟩
end Go.Ds
/-
  Contracts of the smallest functions.
-/
namespace Go.Ds
open Go.Proofs
variable {H : Heap}

abbrev I (n : Int) : Value := .int .i64 n

theorem wrap_fit (n : Int) (h1 : -9223372036854775808 ≤ n) (h2 : n < 9223372036854775808) : IntKind.wrap .i64 n = n := by
  show (if (true && decide (n % 18446744073709551616 ≥ 9223372036854775808)) = true then n % 18446744073709551616 - 18446744073709551616 else n % 18446744073709551616) = n
  simp only [Bool.true_and, decide_eq_true_eq]
  omega

theorem same_ok (v1 v2 : Value) (xs ys : List Int) (h1 : Sl1 H v1 (.int .i64) xs) (h2 : Sl1 H v2 (.int .i64) ys) (hx : xs.length < 1000000) : Fn Try.prog 17 [v1, v2] H fun v H' => v = .bool (decide (xs = ys)) ∧ H' = H := by
  refine Fn.of_wp (fn := Try.f17) rfl rfl (by kernel_rfl) fun l hl => ?_
  have hn : l.length = 26 := by rw [hl]; rfl
  have g0 : get l 0 = v1 := by rw [hl]; rfl
  have g1 : get l 1 = v2 := by rw [hl]; rfl
  clear hl
  repeat first | (with_reducible first | refine Wp.seq ?_ | refine Wp.reg ?_ | refine Wp.block ?_ | refine Wp.skip ?_ | refine Wp.ret ?_ | refine Wp.exit ?_ | refine Wp.label ?_ | refine Wp.condG ?_) | simp (disch := omega) only [↓RP, RQ, TS, TR, ↓reduceIte, Nat.reduceEqDiff, Nat.reduceLT, Nat.reduceLeDiff, Int.reduceLT, Int.reduceLE, Int.reduceEq, Int.reduceAdd, Int.reduceSub, Int.reduceNeg, Int.reduceToNat, Nat.reduceAdd, Nat.reduceMul, Nat.reduceSub, reduceCtorEq, RC, Int.cast_ofNat_Int, hn, g0, g1, h1.len, h2.len]
  refine condW_split (fun h => ?_) (fun h => ?_)
  · repeat first | (with_reducible first | refine Wp.seq ?_ | refine Wp.reg ?_ | refine Wp.block ?_ | refine Wp.skip ?_ | refine Wp.ret ?_ | refine Wp.exit ?_ | refine Wp.label ?_ | refine Wp.condG ?_) | simp (disch := omega) only [↓RP, RQ, TS, TR, ↓reduceIte, Nat.reduceEqDiff, Nat.reduceLT, Nat.reduceLeDiff, Int.reduceLT, Int.reduceLE, Int.reduceEq, Int.reduceAdd, Int.reduceSub, Int.reduceNeg, Int.reduceToNat, Nat.reduceAdd, Nat.reduceMul, Nat.reduceSub, reduceCtorEq, RC, Int.cast_ofNat_Int, hn, g0, g1]
    have : xs ≠ ys := fun e => h (by rw [e])
    simp [this]
  repeat first | (with_reducible first | refine Wp.seq ?_ | refine Wp.reg ?_ | refine Wp.block ?_ | refine Wp.skip ?_ | refine Wp.ret ?_ | refine Wp.exit ?_ | refine Wp.label ?_ | refine Wp.condG ?_) | simp (disch := omega) only [↓RP, RQ, TS, TR, ↓reduceIte, Nat.reduceEqDiff, Nat.reduceLT, Nat.reduceLeDiff, Int.reduceLT, Int.reduceLE, Int.reduceEq, Int.reduceAdd, Int.reduceSub, Int.reduceNeg, Int.reduceToNat, Nat.reduceAdd, Nat.reduceMul, Nat.reduceSub, reduceCtorEq, RC, Int.cast_ofNat_Int, hn, g0, g1]
  refine Wp.loopN (fun n l H' => H' = H ∧ l.length = 26 ∧ get l 0 = v1 ∧ get l 1 = v2 ∧ ∃ i : Nat, n + i = xs.length ∧ get l 5 = I i ∧ ∀ j, j < i → xs.getD j 0 = ys.getD j 0) xs.length ?_ ?_
  · simp (disch := omega) only [↓RP, RQ, TS, TR, ↓reduceIte, Nat.reduceEqDiff, Nat.reduceLT, Nat.reduceLeDiff, Int.reduceLT, Int.reduceLE, Int.reduceEq, Int.reduceAdd, Int.reduceSub, Int.reduceNeg, Int.reduceToNat, Nat.reduceAdd, Nat.reduceMul, Nat.reduceSub, reduceCtorEq, RC, Int.cast_ofNat_Int, hn, g0, g1]
    exact ⟨0, rfl, rfl, fun j hj => absurd hj (Nat.not_lt_zero _)⟩
  rintro n l H' ⟨rfl, hn, g0, g1, i, hi, g5, hs⟩
  repeat first | (with_reducible first | refine Wp.seq ?_ | refine Wp.reg ?_ | refine Wp.block ?_ | refine Wp.skip ?_ | refine Wp.ret ?_ | refine Wp.exit ?_ | refine Wp.label ?_ | refine Wp.condG ?_) | with_reducible refine Wp.drw hmix (by kernel_rfl) ?_ | simp (disch := omega) only [↓RP, RQ, TS, TR, ↓reduceIte, Nat.reduceEqDiff, Nat.reduceLT, Nat.reduceLeDiff, Int.reduceLT, Int.reduceLE, Int.reduceEq, Int.reduceAdd, Int.reduceSub, Int.reduceNeg, Int.reduceToNat, Nat.reduceAdd, Nat.reduceMul, Nat.reduceSub, reduceCtorEq, RC, Int.cast_ofNat_Int, hn, g0, g1, g5, h1.len]
  refine condW_split (fun h3 => ?_) (fun h3 => ?_)
  · repeat first | (with_reducible first | refine Wp.seq ?_ | refine Wp.reg ?_ | refine Wp.block ?_ | refine Wp.skip ?_ | refine Wp.ret ?_ | refine Wp.exit ?_ | refine Wp.label ?_ | refine Wp.condG ?_) | with_reducible refine Wp.drw hmix (by kernel_rfl) ?_ | simp (disch := omega) only [↓RP, RQ, TS, TR, ↓reduceIte, Nat.reduceEqDiff, Nat.reduceLT, Nat.reduceLeDiff, Int.reduceLT, Int.reduceLE, Int.reduceEq, Int.reduceAdd, Int.reduceSub, Int.reduceNeg, Int.reduceToNat, Nat.reduceAdd, Nat.reduceMul, Nat.reduceSub, reduceCtorEq, RC, Int.cast_ofNat_Int, hn, g0, g1, g5, h1.len, h1.idx, h2.idx, h1.ld 0, h2.ld 0]
    refine condW_split (fun h4 => ?_) (fun h4 => ?_)
    · repeat first | (with_reducible first | refine Wp.seq ?_ | refine Wp.reg ?_ | refine Wp.block ?_ | refine Wp.skip ?_ | refine Wp.ret ?_ | refine Wp.exit ?_ | refine Wp.label ?_ | refine Wp.condG ?_) | simp (disch := omega) only [↓RP, RQ, TS, TR, ↓reduceIte, Nat.reduceEqDiff, Nat.reduceLT, Nat.reduceLeDiff, Int.reduceLT, Int.reduceLE, Int.reduceEq, Int.reduceAdd, Int.reduceSub, Int.reduceNeg, Int.reduceToNat, Nat.reduceAdd, Nat.reduceMul, Nat.reduceSub, reduceCtorEq, RC, Int.cast_ofNat_Int, hn, g0, g1, g5]
      have : xs ≠ ys := fun e => h4 (by rw [e])
      simp [this]
    · repeat first | (with_reducible first | refine Wp.seq ?_ | refine Wp.reg ?_ | refine Wp.block ?_ | refine Wp.skip ?_ | refine Wp.ret ?_ | refine Wp.exit ?_ | refine Wp.label ?_ | refine Wp.condG ?_) | simp (disch := omega) only [↓RP, RQ, TS, TR, ↓reduceIte, Nat.reduceEqDiff, Nat.reduceLT, Nat.reduceLeDiff, Int.reduceLT, Int.reduceLE, Int.reduceEq, Int.reduceAdd, Int.reduceSub, Int.reduceNeg, Int.reduceToNat, Nat.reduceAdd, Nat.reduceMul, Nat.reduceSub, reduceCtorEq, RC, Int.cast_ofNat_Int, hn, g0, g1, g5, wrap_fit]
      refine ⟨n - 1, by omega, i + 1, by omega, rfl, fun j hj => ?_⟩
      by_cases e : j = i
      · subst e; omega
      · exact hs j (by omega)
  · repeat first | (with_reducible first | refine Wp.seq ?_ | refine Wp.reg ?_ | refine Wp.block ?_ | refine Wp.skip ?_ | refine Wp.ret ?_ | refine Wp.exit ?_ | refine Wp.label ?_ | refine Wp.condG ?_) | simp (disch := omega) only [↓RP, RQ, TS, TR, ↓reduceIte, Nat.reduceEqDiff, Nat.reduceLT, Nat.reduceLeDiff, Int.reduceLT, Int.reduceLE, Int.reduceEq, Int.reduceAdd, Int.reduceSub, Int.reduceNeg, Int.reduceToNat, Nat.reduceAdd, Nat.reduceMul, Nat.reduceSub, reduceCtorEq, RC, Int.cast_ofNat_Int, hn, g0, g1, g5]
    have hxy : xs = ys := by
      apply List.ext_getElem (by omega)
      intro j hj hj2
      have := hs j (by omega)
      simpa [List.getD_eq_getElem?_getD, hj, hj2] using this
    simp [hxy]
end Go.Ds
/-
  Contracts: has, with, ContainsFunc.
-/
namespace Go.Ds
open Go.Proofs
variable {H : Heap}

/-- A variable of ours may be read. -/
def Var (H : Heap) (A n : Nat) (cs : List Value) : Prop := n = cs.length ∧ ∃ ty rw lo ver, hget H A = some (.cells cs ty rw lo ver) ∧ lo ≤ cs.length
theorem Var.keep {H' : Heap} {A n : Nat} {cs : List Value} (h : Var H A n cs) (hk : ∀ B, B < H.length → hget H' B = hget H B) : Var H' A n cs := by
  obtain ⟨h1, ty, rw, lo, ver, h2, h3⟩ := h
  exact ⟨h1, ty, rw, lo, ver, by rw [hk A (hget_lt h2), h2], h3⟩
theorem Var.ld {A n : Nat} {cs : List Value} (h : Var H A n cs) (s : Option Nat) (off : Nat) : ldW (some false) s H (ptr A off n) = cs[off]? := by
  obtain ⟨rfl, ty, rw, lo, ver, h1, h2⟩ := h
  simp only [ldW, cellsAt, h1]
  by_cases h : off < cs.length
  · rw [if_pos (by simp; omega)]
    simp only [Option.bind_some]
    rw [List.getElem?_take_of_lt (by omega), List.getElem?_drop]
    simp
  · rw [if_neg (by simp; omega), List.getElem?_eq_none (by omega)]
    rfl
theorem Var.ldA {A n : Nat} {cs : List Value} (h : Var H A n cs) (m off : Nat) : ldW (some true) (some m) H (ptr A off n) = if off + m ≤ cs.length then some (.agg ((cs.drop off).take m).toArray) else none := by
  obtain ⟨rfl, ty, rw, lo, ver, h1, h2⟩ := h
  simp only [ldW, cellsAt, h1, Option.bind_some]
  by_cases h : off + m ≤ cs.length
  · rw [if_pos (by simp; omega), if_pos h]
    rfl
  · rw [if_neg (by simp; omega), if_neg h]
    rfl
theorem St.var {P : Program} {H0 : Base} {os : List Ob} (hS : St P H0 H os) (i : Nat) {A n : Nat} {cs : List Value} (ho : os[i]? = some ⟨ptr A 0 n, 0, cs⟩) : Var H A n cs := by
  obtain ⟨h1, ty, lo, ver, h2, h3⟩ := hS.cell i ho
  exact ⟨h1, ty, true, lo, ver, h2, h3⟩

theorem has_ok (n x : Int) (v : Value) (hv : oneCell v = true) : Fn Try.prog 47 [.agg #[I n, v], I x] H fun r H' => r = .bool (decide (0 ≤ x ∧ x < n)) ∧ St Try.prog H H' [] := by
  refine Fn.of_wp (fn := Try.f47) rfl rfl (by kernel_rfl) fun l hl => ?_
  have hn : l.length = 13 := by rw [hl]; rfl
  have g0 : get l 0 = .agg #[I n, v] := by rw [hl]; rfl
  have g1 : get l 1 = I x := by rw [hl]; rfl
  clear hl
  repeat first | (with_reducible first | refine Wp.seq ?_ | refine Wp.reg ?_ | refine Wp.block ?_ | refine Wp.skip ?_ | refine Wp.ret ?_ | refine Wp.exit ?_ | refine Wp.label ?_ | refine Wp.condG ?_) | simp (disch := omega) only [↓RP, RQ, TS, TR, ↓reduceIte, Nat.reduceEqDiff, Nat.reduceLT, Nat.reduceLeDiff, Int.reduceLT, Int.reduceLE, Int.reduceEq, Int.reduceAdd, Int.reduceSub, Int.reduceNeg, Int.reduceToNat, Nat.reduceAdd, Nat.reduceMul, Nat.reduceSub, reduceCtorEq, RC, Int.cast_ofNat_Int, hn, g0, g1]
  refine (St.refl _ H).eNew 2 [I n, v] rfl rfl (by simp [hv]; rfl) tS27 fun A H1 hS => ?_
  repeat first | (with_reducible first | refine Wp.seq ?_ | refine Wp.reg ?_ | refine Wp.block ?_ | refine Wp.skip ?_ | refine Wp.ret ?_ | refine Wp.exit ?_ | refine Wp.label ?_ | refine Wp.condG ?_) | simp (disch := omega) only [↓RP, RQ, TS, TR, ↓reduceIte, Nat.reduceEqDiff, Nat.reduceLT, Nat.reduceLeDiff, Int.reduceLT, Int.reduceLE, Int.reduceEq, Int.reduceAdd, Int.reduceSub, Int.reduceNeg, Int.reduceToNat, Nat.reduceAdd, Nat.reduceMul, Nat.reduceSub, reduceCtorEq, RC, Int.cast_ofNat_Int, hn, g0, g1]
  refine letG_split (fun h => ?_) (fun h => ?_)
  · repeat first | (with_reducible first | refine Wp.seq ?_ | refine Wp.reg ?_ | refine Wp.block ?_ | refine Wp.skip ?_ | refine Wp.ret ?_ | refine Wp.exit ?_ | refine Wp.label ?_ | refine Wp.condG ?_) | simp (disch := omega) only [↓RP, RQ, TS, TR, ↓reduceIte, Nat.reduceEqDiff, Nat.reduceLT, Nat.reduceLeDiff, Int.reduceLT, Int.reduceLE, Int.reduceEq, Int.reduceAdd, Int.reduceSub, Int.reduceNeg, Int.reduceToNat, Nat.reduceAdd, Nat.reduceMul, Nat.reduceSub, reduceCtorEq, RC, Int.cast_ofNat_Int, hn, g0, g1, hS.ld 0 rfl, h]
    exact hS.forget
  · repeat first | (with_reducible first | refine Wp.seq ?_ | refine Wp.reg ?_ | refine Wp.block ?_ | refine Wp.skip ?_ | refine Wp.ret ?_ | refine Wp.exit ?_ | refine Wp.label ?_ | refine Wp.condG ?_) | simp (disch := omega) only [↓RP, RQ, TS, TR, ↓reduceIte, Nat.reduceEqDiff, Nat.reduceLT, Nat.reduceLeDiff, Int.reduceLT, Int.reduceLE, Int.reduceEq, Int.reduceAdd, Int.reduceSub, Int.reduceNeg, Int.reduceToNat, Nat.reduceAdd, Nat.reduceMul, Nat.reduceSub, reduceCtorEq, RC, Int.cast_ofNat_Int, hn, g0, g1, h]
    exact ⟨by simp, hS.forget⟩

theorem with1_ok (n x : Int) (v : Value) (hv : oneCell v = true) (A : Nat) (hA : Var H A 2 [I n, v]) : Fn Try.prog 49 [I x, ptr A 0 2] H fun r H' => r = .bool (!decide (0 ≤ x ∧ x < n)) ∧ St Try.prog H H' [] := by
  refine Fn.of_wp (fn := Try.f49) rfl rfl (by kernel_rfl) fun l hl => ?_
  have hn : l.length = 8 := by rw [hl]; rfl
  have g0 : get l 0 = I x := by rw [hl]; rfl
  have g1 : get l 1 = ptr A 0 2 := by rw [hl]; rfl
  clear hl
  repeat first | (with_reducible first | refine Wp.seq ?_ | refine Wp.reg ?_ | refine Wp.block ?_ | refine Wp.skip ?_ | refine Wp.ret ?_ | refine Wp.exit ?_ | refine Wp.label ?_ | refine Wp.condG ?_) | simp (disch := omega) only [↓RP, RQ, TS, TR, ↓reduceIte, Nat.reduceEqDiff, Nat.reduceLT, Nat.reduceLeDiff, Int.reduceLT, Int.reduceLE, Int.reduceEq, Int.reduceAdd, Int.reduceSub, Int.reduceNeg, Int.reduceToNat, Nat.reduceAdd, Nat.reduceMul, Nat.reduceSub, reduceCtorEq, RC, Int.cast_ofNat_Int, hn, g0, g1, hA.ld, hA.ldA]
  refine callFW_of (has_ok n x v hv) ?_
  rintro r H1 ⟨rfl, hS⟩
  repeat first | (with_reducible first | refine Wp.seq ?_ | refine Wp.reg ?_ | refine Wp.block ?_ | refine Wp.skip ?_ | refine Wp.ret ?_ | refine Wp.exit ?_ | refine Wp.label ?_ | refine Wp.condG ?_) | simp (disch := omega) only [↓RP, RQ, TS, TR, ↓reduceIte, Nat.reduceEqDiff, Nat.reduceLT, Nat.reduceLeDiff, Int.reduceLT, Int.reduceLE, Int.reduceEq, Int.reduceAdd, Int.reduceSub, Int.reduceNeg, Int.reduceToNat, Nat.reduceAdd, Nat.reduceMul, Nat.reduceSub, reduceCtorEq, RC, Int.cast_ofNat_Int, hn, g0, g1]
  exact hS

/-- What a test tells of a number, whatever memory has been made. -/
def Test (P : Program) (H : Heap) (f : Value) (p : Int → Bool) (xs : List Int) : Prop := ∀ H1, St P H H1 [] → ∀ x ∈ xs, callW P f [I x] H1 fun v H2 => v = .bool (p x) ∧ St P H1 H2 []

theorem indexFunc_ok (v f : Value) (p : Int → Bool) (xs : List Int) (hv : Sl1 H v (.int .i64) xs) (hf : Test Try.prog H f p xs) (hx : xs.length < 1000000) :
    Fn Try.prog 55 [v, f] H fun r H' => (∃ i : Int, r = I i ∧ (0 ≤ i ↔ xs.any p = true)) ∧ St Try.prog H H' [] := by
  refine Fn.of_wp (fn := Try.f55) rfl rfl (by kernel_rfl) fun l hl => ?_
  have hn : l.length = 19 := by rw [hl]; rfl
  have g0 : get l 0 = v := by rw [hl]; rfl
  have g1 : get l 1 = f := by rw [hl]; rfl
  clear hl
  repeat first | (with_reducible first | refine Wp.seq ?_ | refine Wp.reg ?_ | refine Wp.block ?_ | refine Wp.skip ?_ | refine Wp.ret ?_ | refine Wp.exit ?_ | refine Wp.label ?_ | refine Wp.condG ?_) | simp (disch := omega) only [↓RP, RQ, TS, TR, ↓reduceIte, Nat.reduceEqDiff, Nat.reduceLT, Nat.reduceLeDiff, Int.reduceLT, Int.reduceLE, Int.reduceEq, Int.reduceAdd, Int.reduceSub, Int.reduceNeg, Int.reduceToNat, Nat.reduceAdd, Nat.reduceMul, Nat.reduceSub, reduceCtorEq, RC, Int.cast_ofNat_Int, hn, g0, g1, hv.len]
  refine Wp.loopN (fun n l H' => St Try.prog H H' [] ∧ l.length = 19 ∧ get l 0 = v ∧ get l 1 = f ∧ get l 7 = I xs.length ∧ ∃ i : Nat, n + i = xs.length ∧ get l 8 = I i ∧ ∀ j, j < i → p (xs.getD j 0) = false) xs.length ?_ ?_
  · simp (disch := omega) only [↓RP, RQ, TS, TR, ↓reduceIte, Nat.reduceEqDiff, Nat.reduceLT, Nat.reduceLeDiff, Int.reduceLT, Int.reduceLE, Int.reduceEq, Int.reduceAdd, Int.reduceSub, Int.reduceNeg, Int.reduceToNat, Nat.reduceAdd, Nat.reduceMul, Nat.reduceSub, reduceCtorEq, RC, Int.cast_ofNat_Int, hn, g0, g1]
    exact ⟨.refl _ _, 0, rfl, rfl, fun j hj => absurd hj (Nat.not_lt_zero _)⟩
  rintro n l H' ⟨hS, hn, g0, g1, g7, i, hi, g8, hs⟩
  have hv' : Sl1 H' v (.int .i64) xs := hS.base hv
  repeat first | (with_reducible first | refine Wp.seq ?_ | refine Wp.reg ?_ | refine Wp.block ?_ | refine Wp.skip ?_ | refine Wp.ret ?_ | refine Wp.exit ?_ | refine Wp.label ?_ | refine Wp.condG ?_) | simp (disch := omega) only [↓RP, RQ, TS, TR, ↓reduceIte, Nat.reduceEqDiff, Nat.reduceLT, Nat.reduceLeDiff, Int.reduceLT, Int.reduceLE, Int.reduceEq, Int.reduceAdd, Int.reduceSub, Int.reduceNeg, Int.reduceToNat, Nat.reduceAdd, Nat.reduceMul, Nat.reduceSub, reduceCtorEq, RC, Int.cast_ofNat_Int, hn, g0, g1, g7, g8, hv'.len, hv'.idx, hv'.ld 0]
  refine condW_split (fun h3 => ?_) (fun h3 => ?_)
  · repeat first | (with_reducible first | refine Wp.seq ?_ | refine Wp.reg ?_ | refine Wp.block ?_ | refine Wp.skip ?_ | refine Wp.ret ?_ | refine Wp.exit ?_ | refine Wp.label ?_ | refine Wp.condG ?_) | simp (disch := omega) only [↓RP, RQ, TS, TR, ↓reduceIte, Nat.reduceEqDiff, Nat.reduceLT, Nat.reduceLeDiff, Int.reduceLT, Int.reduceLE, Int.reduceEq, Int.reduceAdd, Int.reduceSub, Int.reduceNeg, Int.reduceToNat, Nat.reduceAdd, Nat.reduceMul, Nat.reduceSub, reduceCtorEq, RC, Int.cast_ofNat_Int, hn, g0, g1, g7, g8, hv'.len, hv'.idx, hv'.ld 0]
    have hm : xs.getD i 0 ∈ xs := by
      have : i < xs.length := by omega
      rw [List.getD_eq_getElem?_getD, List.getElem?_eq_getElem this]
      exact List.getElem_mem this
    refine callW_mono (hf H' hS _ hm) ?_
    rintro r H2 ⟨rfl, hS2⟩
    repeat first | (with_reducible first | refine Wp.seq ?_ | refine Wp.reg ?_ | refine Wp.block ?_ | refine Wp.skip ?_ | refine Wp.ret ?_ | refine Wp.exit ?_ | refine Wp.label ?_ | refine Wp.condG ?_) | simp (disch := omega) only [↓RP, RQ, TS, TR, ↓reduceIte, Nat.reduceEqDiff, Nat.reduceLT, Nat.reduceLeDiff, Int.reduceLT, Int.reduceLE, Int.reduceEq, Int.reduceAdd, Int.reduceSub, Int.reduceNeg, Int.reduceToNat, Nat.reduceAdd, Nat.reduceMul, Nat.reduceSub, reduceCtorEq, RC, Int.cast_ofNat_Int, hn, g0, g1, g7, g8]
    refine condW_bool (fun h4 => ?_) (fun h4 => ?_)
    · repeat first | (with_reducible first | refine Wp.seq ?_ | refine Wp.reg ?_ | refine Wp.block ?_ | refine Wp.skip ?_ | refine Wp.ret ?_ | refine Wp.exit ?_ | refine Wp.label ?_ | refine Wp.condG ?_) | simp (disch := omega) only [↓RP, RQ, TS, TR, ↓reduceIte, Nat.reduceEqDiff, Nat.reduceLT, Nat.reduceLeDiff, Int.reduceLT, Int.reduceLE, Int.reduceEq, Int.reduceAdd, Int.reduceSub, Int.reduceNeg, Int.reduceToNat, Nat.reduceAdd, Nat.reduceMul, Nat.reduceSub, reduceCtorEq, RC, Int.cast_ofNat_Int, hn, g0, g1, g7, g8]
      refine ⟨⟨i, rfl, ?_⟩, hS.trans hS2⟩
      simp only [List.any_eq_true]
      exact ⟨fun _ => ⟨_, hm, h4⟩, fun _ => by omega⟩
    · repeat first | (with_reducible first | refine Wp.seq ?_ | refine Wp.reg ?_ | refine Wp.block ?_ | refine Wp.skip ?_ | refine Wp.ret ?_ | refine Wp.exit ?_ | refine Wp.label ?_ | refine Wp.condG ?_) | simp (disch := omega) only [↓RP, RQ, TS, TR, ↓reduceIte, Nat.reduceEqDiff, Nat.reduceLT, Nat.reduceLeDiff, Int.reduceLT, Int.reduceLE, Int.reduceEq, Int.reduceAdd, Int.reduceSub, Int.reduceNeg, Int.reduceToNat, Nat.reduceAdd, Nat.reduceMul, Nat.reduceSub, reduceCtorEq, RC, Int.cast_ofNat_Int, hn, g0, g1, g7, g8, wrap_fit]
      refine ⟨n - 1, by omega, hS.trans hS2, i + 1, by omega, rfl, fun j hj => ?_⟩
      by_cases e : j = i
      · subst e; exact h4
      · exact hs j (by omega)
  · repeat first | (with_reducible first | refine Wp.seq ?_ | refine Wp.reg ?_ | refine Wp.block ?_ | refine Wp.skip ?_ | refine Wp.ret ?_ | refine Wp.exit ?_ | refine Wp.label ?_ | refine Wp.condG ?_) | simp (disch := omega) only [↓RP, RQ, TS, TR, ↓reduceIte, Nat.reduceEqDiff, Nat.reduceLT, Nat.reduceLeDiff, Int.reduceLT, Int.reduceLE, Int.reduceEq, Int.reduceAdd, Int.reduceSub, Int.reduceNeg, Int.reduceToNat, Nat.reduceAdd, Nat.reduceMul, Nat.reduceSub, reduceCtorEq, RC, Int.cast_ofNat_Int, hn, g0, g1, g7, g8]
    refine ⟨⟨-1, rfl, ?_⟩, hS⟩
    simp only [List.any_eq_true]
    refine ⟨fun h => by omega, ?_⟩
    rintro ⟨x, hx, hp⟩
    obtain ⟨j, hj, rfl⟩ := List.getElem_of_mem hx
    have := hs j (by omega)
    rw [List.getD_eq_getElem?_getD, List.getElem?_eq_getElem hj, Option.getD_some] at this
    rw [this] at hp
    cases hp

theorem containsFunc_ok (v f : Value) (p : Int → Bool) (xs : List Int) (hv : Sl1 H v (.int .i64) xs) (hf : Test Try.prog H f p xs) (hx : xs.length < 1000000) :
    Fn Try.prog 48 [v, f] H fun r H' => r = .bool (xs.any p) ∧ St Try.prog H H' [] := by
  refine Fn.of_wp (fn := Try.f48) rfl rfl (by kernel_rfl) fun l hl => ?_
  have hn : l.length = 9 := by rw [hl]; rfl
  have g0 : get l 0 = v := by rw [hl]; rfl
  have g1 : get l 1 = f := by rw [hl]; rfl
  clear hl
  repeat first | (with_reducible first | refine Wp.seq ?_ | refine Wp.reg ?_ | refine Wp.block ?_ | refine Wp.skip ?_ | refine Wp.ret ?_ | refine Wp.exit ?_ | refine Wp.label ?_ | refine Wp.condG ?_) | simp (disch := omega) only [↓RP, RQ, TS, TR, ↓reduceIte, Nat.reduceEqDiff, Nat.reduceLT, Nat.reduceLeDiff, Int.reduceLT, Int.reduceLE, Int.reduceEq, Int.reduceAdd, Int.reduceSub, Int.reduceNeg, Int.reduceToNat, Nat.reduceAdd, Nat.reduceMul, Nat.reduceSub, reduceCtorEq, RC, Int.cast_ofNat_Int, hn, g0, g1]
  refine callFW_of (indexFunc_ok v f p xs hv hf hx) ?_
  rintro r H1 ⟨⟨i, rfl, hi⟩, hS⟩
  repeat first | (with_reducible first | refine Wp.seq ?_ | refine Wp.reg ?_ | refine Wp.block ?_ | refine Wp.skip ?_ | refine Wp.ret ?_ | refine Wp.exit ?_ | refine Wp.label ?_ | refine Wp.condG ?_) | simp (disch := omega) only [↓RP, RQ, TS, TR, ↓reduceIte, Nat.reduceEqDiff, Nat.reduceLT, Nat.reduceLeDiff, Int.reduceLT, Int.reduceLE, Int.reduceEq, Int.reduceAdd, Int.reduceSub, Int.reduceNeg, Int.reduceToNat, Nat.reduceAdd, Nat.reduceMul, Nat.reduceSub, reduceCtorEq, RC, Int.cast_ofNat_Int, hn, g0, g1]
  have e : decide (0 ≤ i) = xs.any p := by rw [Bool.eq_iff_iff, decide_eq_true_eq]; exact hi
  rw [e]
  exact ⟨rfl, hS⟩

/-- A slice of edges. -/
def Eg (H : Heap) (v : Value) (es : List (Nat × Nat)) : Prop := Sl2 H v (fun e => I e.1) (fun e => I e.2) es
theorem RdAt.one {v : Value} {size : Nat} {cs : List Value} (h : RdAt H v size cs) : oneCell v = true := h.cells.2.1

theorem check_ok (N : Nat) (v : Value) (es : List (Nat × Nat)) (hv : Eg H v es) (hN : N ≤ 200) (he : es.length ≤ 1000) (hval : ∀ e ∈ es, e.1 < N ∧ e.2 < N) : Fn Try.prog 35 [.agg #[I N, v]] H fun r H' => r = I 0 ∧ St Try.prog H H' [] := by
  refine Fn.of_wp (fn := Try.f35) rfl rfl (by kernel_rfl) fun l hl => ?_
  have hn : l.length = 39 := by rw [hl]; rfl
  have g0 : get l 0 = .agg #[I N, v] := by rw [hl]; rfl
  clear hl
  repeat first | (with_reducible first | refine Wp.seq ?_ | refine Wp.reg ?_ | refine Wp.block ?_ | refine Wp.skip ?_ | refine Wp.ret ?_ | refine Wp.exit ?_ | refine Wp.label ?_ | refine Wp.condG ?_) | simp (disch := omega) only [↓RP, RQ, TS, TR, ↓reduceIte, Nat.reduceEqDiff, Nat.reduceLT, Nat.reduceLeDiff, Int.reduceLT, Int.reduceLE, Int.reduceEq, Int.reduceAdd, Int.reduceSub, Int.reduceNeg, Int.reduceToNat, Nat.reduceAdd, Nat.reduceMul, Nat.reduceSub, reduceCtorEq, RC, Int.cast_ofNat_Int, hn, g0]
  refine (St.refl _ H).eNew 2 [I N, v] rfl rfl (by simp [hv.one]; rfl) tS27 fun A H1 hS => ?_
  repeat first | (with_reducible first | refine Wp.seq ?_ | refine Wp.reg ?_ | refine Wp.block ?_ | refine Wp.skip ?_ | refine Wp.ret ?_ | refine Wp.exit ?_ | refine Wp.label ?_ | refine Wp.condG ?_) | simp (disch := omega) only [↓RP, RQ, TS, TR, ↓reduceIte, Nat.reduceEqDiff, Nat.reduceLT, Nat.reduceLeDiff, Int.reduceLT, Int.reduceLE, Int.reduceEq, Int.reduceAdd, Int.reduceSub, Int.reduceNeg, Int.reduceToNat, Nat.reduceAdd, Nat.reduceMul, Nat.reduceSub, reduceCtorEq, RC, Int.cast_ofNat_Int, hn, g0, hS.ld 0 rfl]
  refine condW_split (fun h => absurd h (by omega)) (fun _ => ?_)
  have hv1 : Sl2 H1 v _ _ es := hS.base hv
  repeat first | (with_reducible first | refine Wp.seq ?_ | refine Wp.reg ?_ | refine Wp.block ?_ | refine Wp.skip ?_ | refine Wp.ret ?_ | refine Wp.exit ?_ | refine Wp.label ?_ | refine Wp.condG ?_) | simp (disch := omega) only [↓RP, RQ, TS, TR, ↓reduceIte, Nat.reduceEqDiff, Nat.reduceLT, Nat.reduceLeDiff, Int.reduceLT, Int.reduceLE, Int.reduceEq, Int.reduceAdd, Int.reduceSub, Int.reduceNeg, Int.reduceToNat, Nat.reduceAdd, Nat.reduceMul, Nat.reduceSub, reduceCtorEq, RC, Int.cast_ofNat_Int, hn, g0, hS.ld 0 rfl]
  refine letG_split' (fun h => absurd h (by omega)) (fun h => ?_)
  repeat first | (with_reducible first | refine Wp.seq ?_ | refine Wp.reg ?_ | refine Wp.block ?_ | refine Wp.skip ?_ | refine Wp.ret ?_ | refine Wp.exit ?_ | refine Wp.label ?_ | refine Wp.condG ?_) | simp (disch := omega) only [↓RP, RQ, TS, TR, ↓reduceIte, Nat.reduceEqDiff, Nat.reduceLT, Nat.reduceLeDiff, Int.reduceLT, Int.reduceLE, Int.reduceEq, Int.reduceAdd, Int.reduceSub, Int.reduceNeg, Int.reduceToNat, Nat.reduceAdd, Nat.reduceMul, Nat.reduceSub, reduceCtorEq, RC, Int.cast_ofNat_Int, hn, g0, hS.ld 0 rfl, hv1.len, h]
  refine condW_split (fun h => absurd h (by omega)) (fun _ => ?_)
  repeat first | (with_reducible first | refine Wp.seq ?_ | refine Wp.reg ?_ | refine Wp.block ?_ | refine Wp.skip ?_ | refine Wp.ret ?_ | refine Wp.exit ?_ | refine Wp.label ?_ | refine Wp.condG ?_) | simp (disch := omega) only [↓RP, RQ, TS, TR, ↓reduceIte, Nat.reduceEqDiff, Nat.reduceLT, Nat.reduceLeDiff, Int.reduceLT, Int.reduceLE, Int.reduceEq, Int.reduceAdd, Int.reduceSub, Int.reduceNeg, Int.reduceToNat, Nat.reduceAdd, Nat.reduceMul, Nat.reduceSub, reduceCtorEq, RC, Int.cast_ofNat_Int, hn, g0, hS.ld 0 rfl, hv1.len]
  refine Wp.loopN (fun n l H' => St Try.prog H H' [⟨ptr A 0 2, 0, [I N, v]⟩] ∧ l.length = 39 ∧ get l 1 = ptr A 0 2 ∧ get l 20 = v ∧ get l 21 = I es.length ∧ ∃ i : Nat, n + i = es.length ∧ get l 22 = I i) es.length ?_ ?_
  · simp (disch := omega) only [↓RP, RQ, TS, TR, ↓reduceIte, Nat.reduceEqDiff, Nat.reduceLT, Nat.reduceLeDiff, Int.reduceLT, Int.reduceLE, Int.reduceEq, Int.reduceAdd, Int.reduceSub, Int.reduceNeg, Int.reduceToNat, Nat.reduceAdd, Nat.reduceMul, Nat.reduceSub, reduceCtorEq, RC, Int.cast_ofNat_Int, hn]
    exact ⟨hS, 0, rfl, rfl⟩
  clear hS hn g0 h
  rintro n l H' ⟨hS, hn, g1, g20, g21, i, hi, g22⟩
  have hv1 : Sl2 H' v _ _ es := hS.base hv
  repeat first | (with_reducible first | refine Wp.seq ?_ | refine Wp.reg ?_ | refine Wp.block ?_ | refine Wp.skip ?_ | refine Wp.ret ?_ | refine Wp.exit ?_ | refine Wp.label ?_ | refine Wp.condG ?_) | simp (disch := omega) only [↓RP, RQ, TS, TR, ↓reduceIte, Nat.reduceEqDiff, Nat.reduceLT, Nat.reduceLeDiff, Int.reduceLT, Int.reduceLE, Int.reduceEq, Int.reduceAdd, Int.reduceSub, Int.reduceNeg, Int.reduceToNat, Nat.reduceAdd, Nat.reduceMul, Nat.reduceSub, reduceCtorEq, RC, Int.cast_ofNat_Int, hn, g1, g20, g21, g22]
  refine condW_split (fun h3 => ?_) (fun h3 => ?_)
  · repeat first | (with_reducible first | refine Wp.seq ?_ | refine Wp.reg ?_ | refine Wp.block ?_ | refine Wp.skip ?_ | refine Wp.ret ?_ | refine Wp.exit ?_ | refine Wp.label ?_ | refine Wp.condG ?_) | simp (disch := omega) only [↓RP, RQ, TS, TR, ↓reduceIte, Nat.reduceEqDiff, Nat.reduceLT, Nat.reduceLeDiff, Int.reduceLT, Int.reduceLE, Int.reduceEq, Int.reduceAdd, Int.reduceSub, Int.reduceNeg, Int.reduceToNat, Nat.reduceAdd, Nat.reduceMul, Nat.reduceSub, reduceCtorEq, RC, Int.cast_ofNat_Int, hn, g1, g20, g21, g22, hv1.idx, hv1.ldA (0, 0)]
    refine hS.eNew 2 [I 0, I 0] rfl rfl rfl tS48 fun B H1 hS => ?_
    repeat first | (with_reducible first | refine Wp.seq ?_ | refine Wp.reg ?_ | refine Wp.block ?_ | refine Wp.skip ?_ | refine Wp.ret ?_ | refine Wp.exit ?_ | refine Wp.label ?_ | refine Wp.condG ?_) | simp (disch := omega) only [↓RP, RQ, TS, TR, ↓reduceIte, Nat.reduceEqDiff, Nat.reduceLT, Nat.reduceLeDiff, Int.reduceLT, Int.reduceLE, Int.reduceEq, Int.reduceAdd, Int.reduceSub, Int.reduceNeg, Int.reduceToNat, Nat.reduceAdd, Nat.reduceMul, Nat.reduceSub, reduceCtorEq, RC, Int.cast_ofNat_Int, hn, g1, g20, g21, g22]
    refine hS.eStore 1 rfl [_, _] rfl rfl tS48 (by simp) fun H2 hS => ?_
    repeat first | (with_reducible first | refine Wp.seq ?_ | refine Wp.reg ?_ | refine Wp.block ?_ | refine Wp.skip ?_ | refine Wp.ret ?_ | refine Wp.exit ?_ | refine Wp.label ?_ | refine Wp.condG ?_) | simp (disch := omega) only [↓RP, RQ, TS, TR, ↓reduceIte, Nat.reduceEqDiff, Nat.reduceLT, Nat.reduceLeDiff, Int.reduceLT, Int.reduceLE, Int.reduceEq, Int.reduceAdd, Int.reduceSub, Int.reduceNeg, Int.reduceToNat, Nat.reduceAdd, Nat.reduceMul, Nat.reduceSub, reduceCtorEq, RC, Int.cast_ofNat_Int, hn, g1, g20, g21, g22, hS.ldA 0 rfl, hS.ld 0 rfl, hS.ld 1 rfl]
    have hm := hval (es.getD i (0, 0)) (by
      have : i < es.length := by omega
      rw [List.getD_eq_getElem?_getD, List.getElem?_eq_getElem this]
      exact List.getElem_mem this)
    have hm := hval (es.getD i (0, 0)) (by
      have : i < es.length := by omega
      rw [List.getD_eq_getElem?_getD, List.getElem?_eq_getElem this]
      exact List.getElem_mem this)
    have d1 : decide (0 ≤ ((es.getD i (0, 0)).1 : Int) ∧ ((es.getD i (0, 0)).1 : Int) < N) = true := decide_eq_true (by omega)
    have d2 : decide (0 ≤ ((es.getD i (0, 0)).2 : Int) ∧ ((es.getD i (0, 0)).2 : Int) < N) = true := decide_eq_true (by omega)
    refine callFW_of (has_ok N _ v hv1.one) ?_
    rintro r H3 ⟨rfl, hS3⟩
    have hS := hS.trans hS3
    repeat first | (with_reducible first | refine Wp.seq ?_ | refine Wp.reg ?_ | refine Wp.block ?_ | refine Wp.skip ?_ | refine Wp.ret ?_ | refine Wp.exit ?_ | refine Wp.label ?_ | refine Wp.condG ?_) | simp (disch := omega) only [↓RP, RQ, TS, TR, ↓reduceIte, Nat.reduceEqDiff, Nat.reduceLT, Nat.reduceLeDiff, Int.reduceLT, Int.reduceLE, Int.reduceEq, Int.reduceAdd, Int.reduceSub, Int.reduceNeg, Int.reduceToNat, Nat.reduceAdd, Nat.reduceMul, Nat.reduceSub, reduceCtorEq, RC, Int.cast_ofNat_Int, hn, g1, g20, g21, g22, d1, hS.ldA 0 rfl, hS.ld 0 rfl, hS.ld 1 rfl]
    refine callFW_of (has_ok N _ v hv1.one) ?_
    rintro r H4 ⟨rfl, hS4⟩
    have hS := hS.trans hS4
    repeat first | (with_reducible first | refine Wp.seq ?_ | refine Wp.reg ?_ | refine Wp.block ?_ | refine Wp.skip ?_ | refine Wp.ret ?_ | refine Wp.exit ?_ | refine Wp.label ?_ | refine Wp.condG ?_) | simp (disch := omega) only [↓RP, RQ, TS, TR, ↓reduceIte, Nat.reduceEqDiff, Nat.reduceLT, Nat.reduceLeDiff, Int.reduceLT, Int.reduceLE, Int.reduceEq, Int.reduceAdd, Int.reduceSub, Int.reduceNeg, Int.reduceToNat, Nat.reduceAdd, Nat.reduceMul, Nat.reduceSub, reduceCtorEq, RC, Int.cast_ofNat_Int, hn, g1, g20, g21, g22, d2, wrap_fit]
    exact ⟨n - 1, by omega, hS.sub (by simp), i + 1, by omega, rfl⟩
  · repeat first | (with_reducible first | refine Wp.seq ?_ | refine Wp.reg ?_ | refine Wp.block ?_ | refine Wp.skip ?_ | refine Wp.ret ?_ | refine Wp.exit ?_ | refine Wp.label ?_ | refine Wp.condG ?_) | simp (disch := omega) only [↓RP, RQ, TS, TR, ↓reduceIte, Nat.reduceEqDiff, Nat.reduceLT, Nat.reduceLeDiff, Int.reduceLT, Int.reduceLE, Int.reduceEq, Int.reduceAdd, Int.reduceSub, Int.reduceNeg, Int.reduceToNat, Nat.reduceAdd, Nat.reduceMul, Nat.reduceSub, reduceCtorEq, RC, Int.cast_ofNat_Int, hn]
    exact hS.forget

theorem with_ok (N : Nat) (v : Value) (es : List (Nat × Nat)) (hv : Eg H v es) (hN : N ≤ 200) (he : es.length ≤ 1000) (hval : ∀ e ∈ es, e.1 < N ∧ e.2 < N) (w : Value) (xs : List Nat) (hw : Sl1 H w (.int .i64) (xs.map Nat.cast)) (hx : xs.length < 1000)
    (hxs : ∀ x ∈ xs, x < N) : Fn Try.prog 37 [.agg #[I N, v], w] H fun r H' => r = I 0 ∧ St Try.prog H H' [] := by
  refine Fn.of_wp (fn := Try.f37) rfl rfl (by kernel_rfl) fun l hl => ?_
  have hn : l.length = 15 := by rw [hl]; rfl
  have g0 : get l 0 = .agg #[I N, v] := by rw [hl]; rfl
  have g1 : get l 1 = w := by rw [hl]; rfl
  clear hl
  repeat first | (with_reducible first | refine Wp.seq ?_ | refine Wp.reg ?_ | refine Wp.block ?_ | refine Wp.skip ?_ | refine Wp.ret ?_ | refine Wp.exit ?_ | refine Wp.label ?_ | refine Wp.condG ?_) | simp (disch := omega) only [↓RP, RQ, TS, TR, ↓reduceIte, Nat.reduceEqDiff, Nat.reduceLT, Nat.reduceLeDiff, Int.reduceLT, Int.reduceLE, Int.reduceEq, Int.reduceAdd, Int.reduceSub, Int.reduceNeg, Int.reduceToNat, Nat.reduceAdd, Nat.reduceMul, Nat.reduceSub, reduceCtorEq, RC, Int.cast_ofNat_Int, hn, g0, g1]
  refine (St.refl _ H).eNew 2 [I N, v] rfl rfl (by simp [hv.one]; rfl) tS27 fun A H1 hS => ?_
  repeat first | (with_reducible first | refine Wp.seq ?_ | refine Wp.reg ?_ | refine Wp.block ?_ | refine Wp.skip ?_ | refine Wp.ret ?_ | refine Wp.exit ?_ | refine Wp.label ?_ | refine Wp.condG ?_) | simp (disch := omega) only [↓RP, RQ, TS, TR, ↓reduceIte, Nat.reduceEqDiff, Nat.reduceLT, Nat.reduceLeDiff, Int.reduceLT, Int.reduceLE, Int.reduceEq, Int.reduceAdd, Int.reduceSub, Int.reduceNeg, Int.reduceToNat, Nat.reduceAdd, Nat.reduceMul, Nat.reduceSub, reduceCtorEq, RC, Int.cast_ofNat_Int, hn, g0, g1, hS.ldA 0 rfl]
  refine callFW_of (check_ok N v es (hS.base hv) hN he hval) ?_
  rintro r H2 ⟨rfl, hS2⟩
  have hS := hS.trans hS2
  repeat first | (with_reducible first | refine Wp.seq ?_ | refine Wp.reg ?_ | refine Wp.block ?_ | refine Wp.skip ?_ | refine Wp.ret ?_ | refine Wp.exit ?_ | refine Wp.label ?_ | refine Wp.condG ?_) | simp (disch := omega) only [↓RP, RQ, TS, TR, ↓reduceIte, Nat.reduceEqDiff, Nat.reduceLT, Nat.reduceLeDiff, Int.reduceLT, Int.reduceLE, Int.reduceEq, Int.reduceAdd, Int.reduceSub, Int.reduceNeg, Int.reduceToNat, Nat.reduceAdd, Nat.reduceMul, Nat.reduceSub, reduceCtorEq, RC, Int.cast_ofNat_Int, hn, g0, g1, hS.ldA 0 rfl]
  refine callFW_of (containsFunc_ok w _ (fun x => !decide (0 ≤ x ∧ x < N)) (xs.map Nat.cast) (hS.base hw) ?_ (by simp; omega)) ?_
  · intro H3 hS3 x hx
    refine callW_fn ((with1_ok N x v hv.one A ?_).mono fun r H4 h => h)
    exact (hS.var 0 rfl).keep hS3.keep
  rintro r H3 ⟨rfl, hS3⟩
  have hS := hS.trans hS3
  have hf : ((xs.map Nat.cast).any fun x : Int => !decide (0 ≤ x ∧ x < N)) = false := by
    rw [List.any_eq_false]
    intro x hx
    obtain ⟨y, hy, rfl⟩ := List.mem_map.1 hx
    have := hxs y hy
    simp; omega
  repeat first | (with_reducible first | refine Wp.seq ?_ | refine Wp.reg ?_ | refine Wp.block ?_ | refine Wp.skip ?_ | refine Wp.ret ?_ | refine Wp.exit ?_ | refine Wp.label ?_ | refine Wp.condG ?_) | simp (disch := omega) only [↓RP, RQ, TS, TR, ↓reduceIte, Nat.reduceEqDiff, Nat.reduceLT, Nat.reduceLeDiff, Int.reduceLT, Int.reduceLE, Int.reduceEq, Int.reduceAdd, Int.reduceSub, Int.reduceNeg, Int.reduceToNat, Nat.reduceAdd, Nat.reduceMul, Nat.reduceSub, reduceCtorEq, RC, Int.cast_ofNat_Int, hn, g0, g1, hf]
  exact hS.forget
end Go.Ds
/-
  Contracts: Make, edges.
-/
namespace Go.Ds
open Go.Proofs
variable {H : Heap}

theorem tmod_nat (a b : Nat) : Int.tmod (a : Int) (b : Int) = ((a % b : Nat) : Int) := by
  rw [Int.tmod_eq_emod_of_nonneg (by omega)]; rfl
theorem tmod_lit (a b : Nat) : Int.tmod (a : Int) (no_index (OfNat.ofNat b)) = ((a % b : Nat) : Int) := tmod_nat a b

abbrev U (n : Int) : Value := .int .u8 n
/-- The number of nodes of a described graph, and its edges. -/
def mkN (a : Nat) : Nat := 1 + a % 7
def mkE (a : Nat) (ls : List (Nat × Nat)) : List (Nat × Nat) := ls.map fun x => (x.1 % mkN a, x.2 % mkN a)
def Lk (H : Heap) (v : Value) (ls : List (Nat × Nat)) : Prop := Sl2 H v (fun e => U e.1) (fun e => U e.2) ls

theorem getD_mem {α : Type} {xs : List α} {i : Nat} (d : α) (h : i < xs.length) : xs.getD i d ∈ xs := by
  rw [List.getD_eq_getElem?_getD, List.getElem?_eq_getElem h]
  exact List.getElem_mem h
theorem take_succ_getD {α : Type} (xs : List α) (i : Nat) (d : α) (h : i < xs.length) : xs.take (i + 1) = xs.take i ++ [xs.getD i d] := by
  rw [List.take_add_one, List.getElem?_eq_getElem h, List.getD_eq_getElem?_getD, List.getElem?_eq_getElem h]
  rfl
abbrev eg (es : List (Nat × Nat)) : List Value := es.flatMap fun e => [I e.1, I e.2]

theorem eg_length (es : List (Nat × Nat)) : (eg es).length = es.length * 2 := flat2_length _ _ es

theorem make_ok (a : Nat) (ha : a < 256) (v : Value) (ls : List (Nat × Nat)) (hv : Lk H v ls) (hl : ls.length ≤ 14) (hb : ∀ x ∈ ls, x.1 < 256 ∧ x.2 < 256) :
    Fn Try.prog 13 [U a, v] H fun r H' => ∃ w, r = .agg #[I (mkN a), w] ∧ Eg H' w (mkE a ls) ∧ St Try.prog H H' [] := by
  refine Fn.of_wp (fn := Try.f13) rfl rfl (by kernel_rfl) fun l hl => ?_
  have hn : l.length = 47 := by rw [hl]; rfl
  have g0 : get l 0 = U a := by rw [hl]; rfl
  have g1 : get l 1 = v := by rw [hl]; rfl
  clear hl
  repeat first | (with_reducible first | refine Wp.seq ?_ | refine Wp.reg ?_ | refine Wp.block ?_ | refine Wp.skip ?_ | refine Wp.ret ?_ | refine Wp.exit ?_ | refine Wp.label ?_ | refine Wp.condG ?_) | simp (disch := omega) only [↓RP, RQ, TS, TR, ↓reduceIte, Nat.reduceEqDiff, Nat.reduceLT, Nat.reduceLeDiff, Int.reduceLT, Int.reduceLE, Int.reduceEq, Int.reduceAdd, Int.reduceSub, Int.reduceNeg, Int.reduceToNat, Nat.reduceAdd, Nat.reduceMul, Nat.reduceSub, reduceCtorEq, RC, Int.cast_ofNat_Int, hn, g0, g1]
  refine (St.refl _ H).eNew 2 [I 0, .slice none 0 0] rfl rfl rfl tS27 fun A H1 hS => ?_
  repeat first | (with_reducible first | refine Wp.seq ?_ | refine Wp.reg ?_ | refine Wp.block ?_ | refine Wp.skip ?_ | refine Wp.ret ?_ | refine Wp.exit ?_ | refine Wp.label ?_ | refine Wp.condG ?_) | simp (disch := omega) only [↓RP, RQ, TS, TR, ↓reduceIte, Nat.reduceEqDiff, Nat.reduceLT, Nat.reduceLeDiff, Int.reduceLT, Int.reduceLE, Int.reduceEq, Int.reduceAdd, Int.reduceSub, Int.reduceNeg, Int.reduceToNat, Nat.reduceAdd, Nat.reduceMul, Nat.reduceSub, reduceCtorEq, RC, Int.cast_ofNat_Int, hn, g0, g1, tmod_lit, wrap_fit]
  refine hS.eNew 2 [I 0, .slice none 0 0] rfl rfl rfl tS27 fun B H2 hS => ?_
  repeat first | (with_reducible first | refine Wp.seq ?_ | refine Wp.reg ?_ | refine Wp.block ?_ | refine Wp.skip ?_ | refine Wp.ret ?_ | refine Wp.exit ?_ | refine Wp.label ?_ | refine Wp.condG ?_) | simp (disch := omega) only [↓RP, RQ, TS, TR, ↓reduceIte, Nat.reduceEqDiff, Nat.reduceLT, Nat.reduceLeDiff, Int.reduceLT, Int.reduceLE, Int.reduceEq, Int.reduceAdd, Int.reduceSub, Int.reduceNeg, Int.reduceToNat, Nat.reduceAdd, Nat.reduceMul, Nat.reduceSub, reduceCtorEq, RC, Int.cast_ofNat_Int, hn, g0, g1]
  refine hS.eStore 1 rfl [_, _] rfl rfl tS27 (by simp) fun H3 hS => ?_
  repeat first | (with_reducible first | refine Wp.seq ?_ | refine Wp.reg ?_ | refine Wp.block ?_ | refine Wp.skip ?_ | refine Wp.ret ?_ | refine Wp.exit ?_ | refine Wp.label ?_ | refine Wp.condG ?_) | simp (disch := omega) only [↓RP, RQ, TS, TR, ↓reduceIte, Nat.reduceEqDiff, Nat.reduceLT, Nat.reduceLeDiff, Int.reduceLT, Int.reduceLE, Int.reduceEq, Int.reduceAdd, Int.reduceSub, Int.reduceNeg, Int.reduceToNat, Nat.reduceAdd, Nat.reduceMul, Nat.reduceSub, reduceCtorEq, RC, Int.cast_ofNat_Int, hn, g0, g1]
  simp only [List.nil_append, List.cons_append, List.append_nil, List.set_cons_zero, List.set_cons_succ, setMany_cons, setMany_nil, Nat.zero_add, Nat.mul_one, Nat.add_zero] at hS
  have e : (1 + ((a % 7 : Nat) : Int)) = ((mkN a : Nat) : Int) := by simp [mkN]
  have hN : 0 < mkN a := by unfold mkN; omega
  rw [e] at hS
  have hS := hS.nil 1
  simp only [List.nil_append, List.cons_append, List.append_nil, List.set_cons_zero, List.set_cons_succ, setMany_cons, setMany_nil, Nat.zero_add, Nat.mul_one, Nat.add_zero] at hS
  refine Wp.loopN (fun n l H' => l.length = 47 ∧ get l 1 = v ∧ get l 4 = ptr A 0 2 ∧ get l 5 = ptr B 0 2 ∧ ∃ (i : Nat) (w : Value), n + i = ls.length ∧ get l 6 = I i ∧
    St Try.prog H H' [⟨ptr A 0 2, 0, [I 0, .slice none 0 0]⟩, ⟨ptr B 0 2, 0, [I (mkN a), w]⟩, ⟨w, 2, eg (mkE a (ls.take i))⟩]) ls.length ?_ ?_
  · repeat first | (with_reducible first | refine Wp.seq ?_ | refine Wp.reg ?_ | refine Wp.block ?_ | refine Wp.skip ?_ | refine Wp.ret ?_ | refine Wp.exit ?_ | refine Wp.label ?_ | refine Wp.condG ?_) | simp (disch := omega) only [↓RP, RQ, TS, TR, ↓reduceIte, Nat.reduceEqDiff, Nat.reduceLT, Nat.reduceLeDiff, Int.reduceLT, Int.reduceLE, Int.reduceEq, Int.reduceAdd, Int.reduceSub, Int.reduceNeg, Int.reduceToNat, Nat.reduceAdd, Nat.reduceMul, Nat.reduceSub, reduceCtorEq, RC, Int.cast_ofNat_Int, hn, g0, g1]
    exact ⟨0, _, rfl, rfl, hS⟩
  clear hS hn g0 g1
  rintro n l H' ⟨hn, g1, g4, g5, i, w, hi, g6, hS⟩
  have hv1 : Sl2 H' v _ _ ls := hS.base hv
  repeat first | (with_reducible first | refine Wp.seq ?_ | refine Wp.reg ?_ | refine Wp.block ?_ | refine Wp.skip ?_ | refine Wp.ret ?_ | refine Wp.exit ?_ | refine Wp.label ?_ | refine Wp.condG ?_) | simp (disch := omega) only [↓RP, RQ, TS, TR, ↓reduceIte, Nat.reduceEqDiff, Nat.reduceLT, Nat.reduceLeDiff, Int.reduceLT, Int.reduceLE, Int.reduceEq, Int.reduceAdd, Int.reduceSub, Int.reduceNeg, Int.reduceToNat, Nat.reduceAdd, Nat.reduceMul, Nat.reduceSub, reduceCtorEq, RC, Int.cast_ofNat_Int, hn, g1, g4, g5, g6, hv1.len]
  refine letG_split (fun h => ?_) (fun h => ?_)
  · repeat first | (with_reducible first | refine Wp.seq ?_ | refine Wp.reg ?_ | refine Wp.block ?_ | refine Wp.skip ?_ | refine Wp.ret ?_ | refine Wp.exit ?_ | refine Wp.label ?_ | refine Wp.condG ?_) | simp (disch := omega) only [↓RP, RQ, TS, TR, ↓reduceIte, Nat.reduceEqDiff, Nat.reduceLT, Nat.reduceLeDiff, Int.reduceLT, Int.reduceLE, Int.reduceEq, Int.reduceAdd, Int.reduceSub, Int.reduceNeg, Int.reduceToNat, Nat.reduceAdd, Nat.reduceMul, Nat.reduceSub, reduceCtorEq, RC, Int.cast_ofNat_Int, hn, g1, g4, g5, g6, h]
    refine condW_split (fun _ => ?_) (fun h => absurd h (by omega))
    have hm := hb (ls.getD i (0, 0)) (getD_mem _ (by omega))
    repeat first | (with_reducible first | refine Wp.seq ?_ | refine Wp.reg ?_ | refine Wp.block ?_ | refine Wp.skip ?_ | refine Wp.ret ?_ | refine Wp.exit ?_ | refine Wp.label ?_ | refine Wp.condG ?_) | simp (disch := omega) only [↓RP, RQ, TS, TR, ↓reduceIte, Nat.reduceEqDiff, Nat.reduceLT, Nat.reduceLeDiff, Int.reduceLT, Int.reduceLE, Int.reduceEq, Int.reduceAdd, Int.reduceSub, Int.reduceNeg, Int.reduceToNat, Nat.reduceAdd, Nat.reduceMul, Nat.reduceSub, reduceCtorEq, RC, Int.cast_ofNat_Int, hn, g1, g4, g5, g6]
    refine Wp.drwT hmix [(1, 22)] (by kernel_rfl) (by kernel_rfl) ?_
    repeat first | (with_reducible first | refine Wp.seq ?_ | refine Wp.reg ?_ | refine Wp.block ?_ | refine Wp.skip ?_ | refine Wp.ret ?_ | refine Wp.exit ?_ | refine Wp.label ?_ | refine Wp.condG ?_) | simp (disch := omega) only [↓RP, RQ, TS, TR, ↓reduceIte, Nat.reduceEqDiff, Nat.reduceLT, Nat.reduceLeDiff, Int.reduceLT, Int.reduceLE, Int.reduceEq, Int.reduceAdd, Int.reduceSub, Int.reduceNeg, Int.reduceToNat, Nat.reduceAdd, Nat.reduceMul, Nat.reduceSub, reduceCtorEq, RC, Int.cast_ofNat_Int, hn, g1, g4, g5, g6, hS.ld 1 rfl, hv1.idx, hv1.fld, hv1.ld0 (0, 0), hv1.ld1 (0, 0), wrap_fit, tmod_nat]
    refine hS.eSlice [I _, I _] tP25 tF25 rfl rfl (by simp [Value.cells]) rfl rfl (by decide) (by decide) fun x H4 hS4 => ?_
    repeat first | (with_reducible first | refine Wp.seq ?_ | refine Wp.reg ?_ | refine Wp.block ?_ | refine Wp.skip ?_ | refine Wp.ret ?_ | refine Wp.exit ?_ | refine Wp.label ?_ | refine Wp.condG ?_) | simp (disch := omega) only [↓RP, RQ, TS, TR, ↓reduceIte, Nat.reduceEqDiff, Nat.reduceLT, Nat.reduceLeDiff, Int.reduceLT, Int.reduceLE, Int.reduceEq, Int.reduceAdd, Int.reduceSub, Int.reduceNeg, Int.reduceToNat, Nat.reduceAdd, Nat.reduceMul, Nat.reduceSub, reduceCtorEq, RC, Int.cast_ofNat_Int, hn, g1, g4, g5, g6]
    refine hS4.eAppend 2 rfl (hS4.rd 3 rfl) tP25 (by simp only [eg_length, mkE, List.length_map, List.length_take, List.length_cons, List.length_nil]; omega) fun w' H5 hS5 => ?_
    repeat first | (with_reducible first | refine Wp.seq ?_ | refine Wp.reg ?_ | refine Wp.block ?_ | refine Wp.skip ?_ | refine Wp.ret ?_ | refine Wp.exit ?_ | refine Wp.label ?_ | refine Wp.condG ?_) | simp (disch := omega) only [↓RP, RQ, TS, TR, ↓reduceIte, Nat.reduceEqDiff, Nat.reduceLT, Nat.reduceLeDiff, Int.reduceLT, Int.reduceLE, Int.reduceEq, Int.reduceAdd, Int.reduceSub, Int.reduceNeg, Int.reduceToNat, Nat.reduceAdd, Nat.reduceMul, Nat.reduceSub, reduceCtorEq, RC, Int.cast_ofNat_Int, hn, g1, g4, g5, g6]
    have hw := (hS5.rd 2 rfl).cells
    refine hS5.eStore 1 rfl [w'] (by rw [hw.1]) (by simp [hw.2.1]) tS25 (by simp) fun H6 hS6 => ?_
    repeat first | (with_reducible first | refine Wp.seq ?_ | refine Wp.reg ?_ | refine Wp.block ?_ | refine Wp.skip ?_ | refine Wp.ret ?_ | refine Wp.exit ?_ | refine Wp.label ?_ | refine Wp.condG ?_) | simp (disch := omega) only [↓RP, RQ, TS, TR, ↓reduceIte, Nat.reduceEqDiff, Nat.reduceLT, Nat.reduceLeDiff, Int.reduceLT, Int.reduceLE, Int.reduceEq, Int.reduceAdd, Int.reduceSub, Int.reduceNeg, Int.reduceToNat, Nat.reduceAdd, Nat.reduceMul, Nat.reduceSub, reduceCtorEq, RC, Int.cast_ofNat_Int, hn, g1, g4, g5, g6, hS4.ld 1 rfl, wrap_fit]
    simp only [List.nil_append, List.cons_append, List.append_nil, List.set_cons_zero, List.set_cons_succ, setMany_cons, setMany_nil, Nat.zero_add, Nat.mul_one, Nat.add_zero] at hS6
    have e : mkE a (ls.take (i + 1)) = mkE a (ls.take i) ++ [((ls.getD i (0, 0)).1 % mkN a, (ls.getD i (0, 0)).2 % mkN a)] := by
      rw [take_succ_getD ls i (0, 0) (by omega)]
      simp only [mkE, List.map_append, List.map_cons, List.map_nil]
    refine ⟨n - 1, by omega, i + 1, w', by omega, rfl, ?_⟩
    rw [e, eg, List.flatMap_append]
    exact hS6.sub (by simp)
  · have hw := (hS.rd 2 rfl).cells
    repeat first | (with_reducible first | refine Wp.seq ?_ | refine Wp.reg ?_ | refine Wp.block ?_ | refine Wp.skip ?_ | refine Wp.ret ?_ | refine Wp.exit ?_ | refine Wp.label ?_ | refine Wp.condG ?_) | simp (disch := omega) only [↓RP, RQ, TS, TR, ↓reduceIte, Nat.reduceEqDiff, Nat.reduceLT, Nat.reduceLeDiff, Int.reduceLT, Int.reduceLE, Int.reduceEq, Int.reduceAdd, Int.reduceSub, Int.reduceNeg, Int.reduceToNat, Nat.reduceAdd, Nat.reduceMul, Nat.reduceSub, reduceCtorEq, RC, Int.cast_ofNat_Int, hn, g1, g4, g5, g6, h, hS.ldA 1 rfl]
    refine hS.eStore 0 rfl [I (mkN a), w] rfl (by simp [hw.2.1]; rfl) tS27 (by simp) fun H6 hS6 => ?_
    simp only [List.nil_append, List.cons_append, List.append_nil, List.set_cons_zero, List.set_cons_succ, setMany_cons, setMany_nil, Nat.zero_add, Nat.mul_one, Nat.add_zero] at hS6
    repeat first | (with_reducible first | refine Wp.seq ?_ | refine Wp.reg ?_ | refine Wp.block ?_ | refine Wp.skip ?_ | refine Wp.ret ?_ | refine Wp.exit ?_ | refine Wp.label ?_ | refine Wp.condG ?_) | simp (disch := omega) only [↓RP, RQ, TS, TR, ↓reduceIte, Nat.reduceEqDiff, Nat.reduceLT, Nat.reduceLeDiff, Int.reduceLT, Int.reduceLE, Int.reduceEq, Int.reduceAdd, Int.reduceSub, Int.reduceNeg, Int.reduceToNat, Nat.reduceAdd, Nat.reduceMul, Nat.reduceSub, reduceCtorEq, RC, Int.cast_ofNat_Int, hn, g1, g4, g5, g6, hS6.ldA 0 rfl]
    refine ⟨w, rfl, ?_, hS6.forget⟩
    have e : ls.take i = ls := List.take_of_length_le (by omega)
    rw [e] at hS6
    exact hS6.rd 2 rfl

theorem edges_ok (N : Nat) (v : Value) (es : List (Nat × Nat)) (hv : Eg H v es) (he : es.length ≤ 1000) : Fn Try.prog 16 [.agg #[I N, v]] H fun r H' => Eg H' r es ∧ St Try.prog H H' [] := by
  refine Fn.of_wp (fn := Try.f16) rfl rfl (by kernel_rfl) fun l hl => ?_
  have hn : l.length = 29 := by rw [hl]; rfl
  have g0 : get l 0 = .agg #[I N, v] := by rw [hl]; rfl
  clear hl
  repeat first | (with_reducible first | refine Wp.seq ?_ | refine Wp.reg ?_ | refine Wp.block ?_ | refine Wp.skip ?_ | refine Wp.ret ?_ | refine Wp.exit ?_ | refine Wp.label ?_ | refine Wp.condG ?_) | simp (disch := omega) only [↓RP, RQ, TS, TR, ↓reduceIte, Nat.reduceEqDiff, Nat.reduceLT, Nat.reduceLeDiff, Int.reduceLT, Int.reduceLE, Int.reduceEq, Int.reduceAdd, Int.reduceSub, Int.reduceNeg, Int.reduceToNat, Nat.reduceAdd, Nat.reduceMul, Nat.reduceSub, reduceCtorEq, RC, Int.cast_ofNat_Int, hn, g0]
  refine (St.refl _ H).eNew 2 [I N, v] rfl rfl (by simp [hv.one]; rfl) tS27 fun A H1 hS => ?_
  repeat first | (with_reducible first | refine Wp.seq ?_ | refine Wp.reg ?_ | refine Wp.block ?_ | refine Wp.skip ?_ | refine Wp.ret ?_ | refine Wp.exit ?_ | refine Wp.label ?_ | refine Wp.condG ?_) | simp (disch := omega) only [↓RP, RQ, TS, TR, ↓reduceIte, Nat.reduceEqDiff, Nat.reduceLT, Nat.reduceLeDiff, Int.reduceLT, Int.reduceLE, Int.reduceEq, Int.reduceAdd, Int.reduceSub, Int.reduceNeg, Int.reduceToNat, Nat.reduceAdd, Nat.reduceMul, Nat.reduceSub, reduceCtorEq, RC, Int.cast_ofNat_Int, hn, g0]
  have hS := hS.nil 1
  simp only [List.nil_append, List.cons_append, List.append_nil, List.set_cons_zero, List.set_cons_succ, setMany_cons, setMany_nil, Nat.zero_add, Nat.mul_one, Nat.add_zero] at hS
  refine Wp.loopN (fun n l H' => l.length = 29 ∧ get l 1 = ptr A 0 2 ∧ ∃ (i : Nat) (w : Value), n + i = es.length ∧ get l 3 = w ∧ get l 4 = I i ∧
    St Try.prog H H' [⟨ptr A 0 2, 0, [I N, v]⟩, ⟨w, 2, eg (es.take i)⟩]) es.length ?_ ?_
  · repeat first | (with_reducible first | refine Wp.seq ?_ | refine Wp.reg ?_ | refine Wp.block ?_ | refine Wp.skip ?_ | refine Wp.ret ?_ | refine Wp.exit ?_ | refine Wp.label ?_ | refine Wp.condG ?_) | simp (disch := omega) only [↓RP, RQ, TS, TR, ↓reduceIte, Nat.reduceEqDiff, Nat.reduceLT, Nat.reduceLeDiff, Int.reduceLT, Int.reduceLE, Int.reduceEq, Int.reduceAdd, Int.reduceSub, Int.reduceNeg, Int.reduceToNat, Nat.reduceAdd, Nat.reduceMul, Nat.reduceSub, reduceCtorEq, RC, Int.cast_ofNat_Int, hn]
    exact ⟨0, _, rfl, rfl, rfl, hS⟩
  clear hS hn g0
  rintro n l H' ⟨hn, g1, i, w, hi, g3, g4, hS⟩
  have hv1 : Sl2 H' v _ _ es := hS.base hv
  repeat first | (with_reducible first | refine Wp.seq ?_ | refine Wp.reg ?_ | refine Wp.block ?_ | refine Wp.skip ?_ | refine Wp.ret ?_ | refine Wp.exit ?_ | refine Wp.label ?_ | refine Wp.condG ?_) | simp (disch := omega) only [↓RP, RQ, TS, TR, ↓reduceIte, Nat.reduceEqDiff, Nat.reduceLT, Nat.reduceLeDiff, Int.reduceLT, Int.reduceLE, Int.reduceEq, Int.reduceAdd, Int.reduceSub, Int.reduceNeg, Int.reduceToNat, Nat.reduceAdd, Nat.reduceMul, Nat.reduceSub, reduceCtorEq, RC, Int.cast_ofNat_Int, hn, g1, g3, g4, hS.ld 0 rfl, hv1.len]
  refine condW_split (fun h => ?_) (fun h => ?_)
  · repeat first | (with_reducible first | refine Wp.seq ?_ | refine Wp.reg ?_ | refine Wp.block ?_ | refine Wp.skip ?_ | refine Wp.ret ?_ | refine Wp.exit ?_ | refine Wp.label ?_ | refine Wp.condG ?_) | with_reducible refine Wp.drw hmix (by kernel_rfl) ?_ | simp (disch := omega) only [↓RP, RQ, TS, TR, ↓reduceIte, Nat.reduceEqDiff, Nat.reduceLT, Nat.reduceLeDiff, Int.reduceLT, Int.reduceLE, Int.reduceEq, Int.reduceAdd, Int.reduceSub, Int.reduceNeg, Int.reduceToNat, Nat.reduceAdd, Nat.reduceMul, Nat.reduceSub, reduceCtorEq, RC, Int.cast_ofNat_Int, hn, g1, g3, g4, hS.ld 0 rfl, hv1.idx, hv1.fld, hv1.ld0 (0, 0), hv1.ld1 (0, 0)]
    refine hS.eSlice [I _, I _] tP35 tF35 rfl rfl (by simp [Value.cells]) rfl rfl (by decide) (by decide) fun x H4 hS4 => ?_
    repeat first | (with_reducible first | refine Wp.seq ?_ | refine Wp.reg ?_ | refine Wp.block ?_ | refine Wp.skip ?_ | refine Wp.ret ?_ | refine Wp.exit ?_ | refine Wp.label ?_ | refine Wp.condG ?_) | simp (disch := omega) only [↓RP, RQ, TS, TR, ↓reduceIte, Nat.reduceEqDiff, Nat.reduceLT, Nat.reduceLeDiff, Int.reduceLT, Int.reduceLE, Int.reduceEq, Int.reduceAdd, Int.reduceSub, Int.reduceNeg, Int.reduceToNat, Nat.reduceAdd, Nat.reduceMul, Nat.reduceSub, reduceCtorEq, RC, Int.cast_ofNat_Int, hn, g1, g3, g4]
    refine hS4.eAppend 1 rfl (hS4.rd 2 rfl) tP35 (by simp only [eg_length, List.length_take, List.length_cons, List.length_nil]; omega) fun w' H5 hS5 => ?_
    repeat first | (with_reducible first | refine Wp.seq ?_ | refine Wp.reg ?_ | refine Wp.block ?_ | refine Wp.skip ?_ | refine Wp.ret ?_ | refine Wp.exit ?_ | refine Wp.label ?_ | refine Wp.condG ?_) | simp (disch := omega) only [↓RP, RQ, TS, TR, ↓reduceIte, Nat.reduceEqDiff, Nat.reduceLT, Nat.reduceLeDiff, Int.reduceLT, Int.reduceLE, Int.reduceEq, Int.reduceAdd, Int.reduceSub, Int.reduceNeg, Int.reduceToNat, Nat.reduceAdd, Nat.reduceMul, Nat.reduceSub, reduceCtorEq, RC, Int.cast_ofNat_Int, hn, g1, g3, g4, wrap_fit]
    simp only [List.nil_append, List.cons_append, List.append_nil, List.set_cons_zero, List.set_cons_succ, setMany_cons, setMany_nil, Nat.zero_add, Nat.mul_one, Nat.add_zero] at hS5
    refine ⟨n - 1, by omega, i + 1, w', by omega, rfl, rfl, ?_⟩
    rw [take_succ_getD es i (0, 0) (by omega), eg, List.flatMap_append]
    exact hS5.sub (by simp)
  · repeat first | (with_reducible first | refine Wp.seq ?_ | refine Wp.reg ?_ | refine Wp.block ?_ | refine Wp.skip ?_ | refine Wp.ret ?_ | refine Wp.exit ?_ | refine Wp.label ?_ | refine Wp.condG ?_) | simp (disch := omega) only [↓RP, RQ, TS, TR, ↓reduceIte, Nat.reduceEqDiff, Nat.reduceLT, Nat.reduceLeDiff, Int.reduceLT, Int.reduceLE, Int.reduceEq, Int.reduceAdd, Int.reduceSub, Int.reduceNeg, Int.reduceToNat, Nat.reduceAdd, Nat.reduceMul, Nat.reduceSub, reduceCtorEq, RC, Int.cast_ofNat_Int, hn, g1, g3, g4]
    refine ⟨?_, hS.forget⟩
    have e : es.take i = es := List.take_of_length_le (by omega)
    rw [e] at hS
    exact hS.rd 1 rfl
end Go.Ds
/-
  Contracts: Repeat.
-/
namespace Go.Ds
open Go.Proofs
variable {H : Heap}

theorem CallOk.closedA {P : Program} {f : FuncId} {args : List Value} (hargs : args.all flat = true) {v : Value} (hv : flat v = true) {H1 : Heap} (h : CallOk P f args .nil v H1) (H : Heap) : CallOk P f args H v H := by
  intro k ρ w args' hr ha
  have hall : ∀ (l m : List Value), l.all flat = true → All2 (V ρ) l m → All2 (V (fun _ _ => none)) l m := by
    intro l
    induction l with
    | nil => intro m _ h; cases m with | nil => trivial | cons _ _ => exact h.elim
    | cons a l ih =>
      intro m hl h
      cases m with
      | nil => exact h.elim
      | cons b m =>
        simp only [List.all_cons, Bool.and_eq_true] at hl
        have e : b = a := h.1.eq_of_flat hl.1
        subst e
        exact ⟨.of_flat hl.1, ih m hl.2 h.2⟩
  refine (h k (fun _ _ => none) w args' (.empty w) (hall _ _ hargs ha)).mono ?_
  rintro e w' ⟨ρ', v', rfl, hp, hv'⟩
  have hframe : ∀ b, b < w.heap.size → w'.heap[b]? = w.heap[b]? := fun b hb => (hp.frame b hb (by rintro ⟨A, e, p, blk, hq, _⟩; cases hq)).1
  refine ⟨ρ, v', rfl, ?_, ?_⟩
  · exact {
      le := .refl ρ
      rel := hr.other hp.size fun A e p hq => hframe _ (hr.dom _ _ _ hq).2
      len := Nat.le_refl _
      size := hp.size
      os := hp.os
      tape := hp.tape
      output := hp.output
      frame := fun b hb hw => ⟨hframe b hb, hw⟩
      loops := fun b r h => ⟨r, by rw [hframe b (blk_lt h), h]⟩
      img := fun _ _ h => h }
  · rw [hv'.eq_of_flat hv]
    exact .of_flat hv

noncomputable def mulRun (n : Nat) : Bool := match callF Try.prog (exD Try.prog 60) 56 [.int .u64 1, .int .u64 (Int.ofNat n)] .nil with
  | some (.tuple ⟨[.int .u64 (.ofNat a), .int .u64 (.ofNat b)]⟩, _) => Nat.beq a 0 && Nat.beq b n
  | _ => false
theorem mulRuns : (List.range 201).all mulRun = true := by kernel_rfl

theorem mul_ok (n : Nat) (hn : n ≤ 200) : Fn Try.prog 56 [.int .u64 1, .int .u64 n] H fun r H' => r = .tuple #[.int .u64 0, .int .u64 n] ∧ H' = H := by
  have h := List.all_eq_true.1 mulRuns n (List.mem_range.2 (by omega))
  unfold mulRun at h
  split at h
  · rename_i a b H1 hr
    rw [Bool.and_eq_true] at h
    obtain rfl := Nat.eq_of_beq_eq_true h.1
    obtain rfl := Nat.eq_of_beq_eq_true h.2
    refine ⟨⟨Try.f56, rfl, rfl, by kernel_rfl⟩, _, H, CallOk.closedA (by rfl) (by rfl) (CallOk.of_run hmix hr) H, rfl, rfl⟩
  · cases h

theorem wrap_fitU (n : Int) (h1 : 0 ≤ n) (h2 : n < 18446744073709551616) : IntKind.wrap .u64 n = n := by
  show (if (false && decide (n % 18446744073709551616 ≥ 9223372036854775808)) = true then n % 18446744073709551616 - 18446744073709551616 else n % 18446744073709551616) = n
  simp only [Bool.false_and]
  rw [if_neg (by simp)]
  omega
end Go.Ds
/-
  Contracts: Repeat.
-/
namespace Go.Ds
open Go.Proofs
variable {H : Heap}

theorem setMany_replicate (c z : Value) : ∀ (m x n : Nat), x + m ≤ n → setMany (List.replicate x c ++ List.replicate (n - x) z) x (List.replicate m c) = List.replicate (x + m) c ++ List.replicate (n - (x + m)) z := by
  intro m x n h
  have e : List.replicate (n - x) z = List.replicate m z ++ List.replicate (n - (x + m)) z := by
    rw [List.replicate_append_replicate]; congr 1; omega
  have := setMany_over (List.replicate m c) (List.replicate x c) (List.replicate (n - x) z) (by simp; omega)
  rw [List.length_replicate] at this
  rw [this, List.replicate_append_replicate]
  congr 1
  simp
  omega

theorem subS_whole {P : Program} {H : Heap} {v : Value} {cs : List Value} (h : RdAt H v 1 cs) (h0 : cs ≠ []) : subS v 1 0 cs.length = v := by
  rcases h with ⟨rfl, rfl⟩ | ⟨A, i, e, row, ty, rw, lo', ver, n, h1, h2, h3, h4, h5, h6, rfl⟩
  · exact (h0 rfl).elim
  · simp [subS, h6]

theorem St.eCopyW {P : Program} {H0 : Base} {os : List Ob} (hS : St P H0 H os) (i : Nat) {v : Value} {cs : List Value} (ho : os[i]? = some ⟨v, 1, cs⟩) {x : Value} {ys : List Value} (hx : RdAt H x 1 ys) (h0 : 0 < cs.length) (hy : 0 < ys.length) {t : TypeId} (ht : sliceSz P t = some 1) {K : Value → Heap → Prop}
    (h : ∀ H1, St P H0 H1 (os.set i ⟨v, 1, setMany cs 0 (ys.take (min ys.length cs.length))⟩) → K (.int .i64 ((min ys.length cs.length : Nat) : Int)) H1) : copyW P H t v x K := by
  have e := subS_whole (P := P) (hS.rd (size := 0) i ho) (by intro e; simp [e] at h0)
  have := hS.eCopy1 i ho hx 0 cs.length (by omega) h0 hy ht h
  rwa [e] at this

theorem repeat_ok (N : Nat) (h1 : 1 ≤ N) (hN : N ≤ 200) (v : Value) (hv : Sl1 H v (.int .i64) [-1]) : Fn Try.prog 51 [v, I N] H fun r H' => St Try.prog H H' [⟨r, 1, List.replicate N (I (-1))⟩] := by
  refine Fn.of_wp (fn := Try.f51) rfl rfl (by kernel_rfl) fun l hl => ?_
  have hn : l.length = 48 := by rw [hl]; rfl
  have g0 : get l 0 = v := by rw [hl]; rfl
  have g1 : get l 1 = I N := by rw [hl]; rfl
  clear hl
  repeat first | (with_reducible first | refine Wp.seq ?_ | refine Wp.reg ?_ | refine Wp.block ?_ | refine Wp.skip ?_ | refine Wp.ret ?_ | refine Wp.exit ?_ | refine Wp.label ?_ | refine Wp.condG ?_) | simp (disch := omega) only [↓RP, RQ, TS, TR, ↓reduceIte, Nat.reduceEqDiff, Nat.reduceLT, Nat.reduceLeDiff, Int.reduceLT, Int.reduceLE, Int.reduceEq, Int.reduceAdd, Int.reduceSub, Int.reduceNeg, Int.reduceToNat, Nat.reduceAdd, Nat.reduceMul, Nat.reduceSub, reduceCtorEq, RC, Int.cast_ofNat_Int, hn, g0, g1]
  refine condW_split (fun h => absurd h (by omega)) (fun _ => ?_)
  repeat first | (with_reducible first | refine Wp.seq ?_ | refine Wp.reg ?_ | refine Wp.block ?_ | refine Wp.skip ?_ | refine Wp.ret ?_ | refine Wp.exit ?_ | refine Wp.label ?_ | refine Wp.condG ?_) | simp (disch := omega) only [↓RP, RQ, TS, TR, ↓reduceIte, Nat.reduceEqDiff, Nat.reduceLT, Nat.reduceLeDiff, Int.reduceLT, Int.reduceLE, Int.reduceEq, Int.reduceAdd, Int.reduceSub, Int.reduceNeg, Int.reduceToNat, Nat.reduceAdd, Nat.reduceMul, Nat.reduceSub, reduceCtorEq, RC, Int.cast_ofNat_Int, hn, g0, g1, hv.len, wrap_fitU]
  refine callFW_of (mul_ok N hN) ?_
  rintro r H1 ⟨rfl, rfl⟩
  repeat first | (with_reducible first | refine Wp.seq ?_ | refine Wp.reg ?_ | refine Wp.block ?_ | refine Wp.skip ?_ | refine Wp.ret ?_ | refine Wp.exit ?_ | refine Wp.label ?_ | refine Wp.condG ?_) | simp (disch := omega) only [↓RP, RQ, TS, TR, ↓reduceIte, Nat.reduceEqDiff, Nat.reduceLT, Nat.reduceLeDiff, Int.reduceLT, Int.reduceLE, Int.reduceEq, Int.reduceAdd, Int.reduceSub, Int.reduceNeg, Int.reduceToNat, Nat.reduceAdd, Nat.reduceMul, Nat.reduceSub, reduceCtorEq, RC, Int.cast_ofNat_Int, hn, g0, g1, hv.len, wrap_fitU]
  refine condW_split (fun h => absurd h (by omega)) (fun _ => ?_)
  repeat first | (with_reducible first | refine Wp.seq ?_ | refine Wp.reg ?_ | refine Wp.block ?_ | refine Wp.skip ?_ | refine Wp.ret ?_ | refine Wp.exit ?_ | refine Wp.label ?_ | refine Wp.condG ?_) | simp (disch := omega) only [↓RP, RQ, TS, TR, ↓reduceIte, Nat.reduceEqDiff, Nat.reduceLT, Nat.reduceLeDiff, Int.reduceLT, Int.reduceLE, Int.reduceEq, Int.reduceAdd, Int.reduceSub, Int.reduceNeg, Int.reduceToNat, Nat.reduceAdd, Nat.reduceMul, Nat.reduceSub, reduceCtorEq, RC, Int.cast_ofNat_Int, hn, g0, g1, hv.len, wrap_fit]
  refine (St.refl _ _).eMake1 N tM29 (by omega) fun w H2 hS => ?_
  simp only [List.nil_append, List.cons_append, List.append_nil, List.set_cons_zero, List.set_cons_succ, setMany_cons, setMany_nil, Nat.zero_add, Nat.mul_one, Nat.add_zero] at hS
  repeat first | (with_reducible first | refine Wp.seq ?_ | refine Wp.reg ?_ | refine Wp.block ?_ | refine Wp.skip ?_ | refine Wp.ret ?_ | refine Wp.exit ?_ | refine Wp.label ?_ | refine Wp.condG ?_) | simp (disch := omega) only [↓RP, RQ, TS, TR, ↓reduceIte, Nat.reduceEqDiff, Nat.reduceLT, Nat.reduceLeDiff, Int.reduceLT, Int.reduceLE, Int.reduceEq, Int.reduceAdd, Int.reduceSub, Int.reduceNeg, Int.reduceToNat, Nat.reduceAdd, Nat.reduceMul, Nat.reduceSub, reduceCtorEq, RC, Int.cast_ofNat_Int, hn, g0, g1]
  refine hS.eCopyW 0 rfl (hS.base hv) (by simp; omega) (by simp) tE29 fun H3 hS => ?_
  have e1 : min (List.map (Value.int .i64) [-1]).length (List.replicate N (Value.int .i64 0)).length = 1 := by simp; omega
  rw [e1] at hS ⊢
  have e2 := setMany_replicate (I (-1)) (.int .i64 0) 1 0 N (by omega)
  simp only [List.replicate_zero, List.nil_append, Nat.sub_zero, Nat.zero_add] at e2
  have hS : St Try.prog H1 H3 [⟨w, 1, List.replicate 1 (I (-1)) ++ List.replicate (N - 1) (.int .i64 0)⟩] := by
    rw [← e2]; exact hS
  repeat first | (with_reducible first | refine Wp.seq ?_ | refine Wp.reg ?_ | refine Wp.block ?_ | refine Wp.skip ?_ | refine Wp.ret ?_ | refine Wp.exit ?_ | refine Wp.label ?_ | refine Wp.condG ?_) | simp (disch := omega) only [↓RP, RQ, TS, TR, ↓reduceIte, Nat.reduceEqDiff, Nat.reduceLT, Nat.reduceLeDiff, Int.reduceLT, Int.reduceLE, Int.reduceEq, Int.reduceAdd, Int.reduceSub, Int.reduceNeg, Int.reduceToNat, Nat.reduceAdd, Nat.reduceMul, Nat.reduceSub, reduceCtorEq, RC, Int.cast_ofNat_Int, hn, g0, g1]
  refine Wp.loopN (fun n l H' => l.length = 48 ∧ get l 7 = w ∧ ∃ x : Nat, n + x = N ∧ 1 ≤ x ∧ get l 8 = I x ∧ St Try.prog H1 H' [⟨w, 1, List.replicate x (I (-1)) ++ List.replicate (N - x) (.int .i64 0)⟩]) (N - 1) ?_ ?_
  · repeat first | (with_reducible first | refine Wp.seq ?_ | refine Wp.reg ?_ | refine Wp.block ?_ | refine Wp.skip ?_ | refine Wp.ret ?_ | refine Wp.exit ?_ | refine Wp.label ?_ | refine Wp.condG ?_) | simp (disch := omega) only [↓RP, RQ, TS, TR, ↓reduceIte, Nat.reduceEqDiff, Nat.reduceLT, Nat.reduceLeDiff, Int.reduceLT, Int.reduceLE, Int.reduceEq, Int.reduceAdd, Int.reduceSub, Int.reduceNeg, Int.reduceToNat, Nat.reduceAdd, Nat.reduceMul, Nat.reduceSub, reduceCtorEq, RC, Int.cast_ofNat_Int, hn]
    exact ⟨1, by omega, by omega, rfl, hS⟩
  clear hS hn g0 g1 e1 e2
  rintro n l H' ⟨hn, g7, x, hx, hx1, g8, hS⟩
  have hlen : (List.replicate x (I (-1)) ++ List.replicate (N - x) (Value.int .i64 0)).length = N * (0 + 1) := by simp; omega
  have hr := hS.rd 0 rfl
  repeat first | (with_reducible first | refine Wp.seq ?_ | refine Wp.reg ?_ | refine Wp.block ?_ | refine Wp.skip ?_ | refine Wp.ret ?_ | refine Wp.exit ?_ | refine Wp.label ?_ | refine Wp.condG ?_) | simp (disch := omega) only [↓RP, RQ, TS, TR, ↓reduceIte, Nat.reduceEqDiff, Nat.reduceLT, Nat.reduceLeDiff, Int.reduceLT, Int.reduceLE, Int.reduceEq, Int.reduceAdd, Int.reduceSub, Int.reduceNeg, Int.reduceToNat, Nat.reduceAdd, Nat.reduceMul, Nat.reduceSub, reduceCtorEq, RC, Int.cast_ofNat_Int, hn, g7, g8, hr.len hlen]
  refine condW_split (fun h => ?_) (fun h => ?_)
  · repeat first | (with_reducible first | refine Wp.seq ?_ | refine Wp.reg ?_ | refine Wp.block ?_ | refine Wp.skip ?_ | refine Wp.ret ?_ | refine Wp.exit ?_ | refine Wp.label ?_ | refine Wp.condG ?_) | with_reducible refine Wp.drw hmix (by kernel_rfl) ?_ | simp (disch := omega) only [↓RP, RQ, TS, TR, ↓reduceIte, Nat.reduceEqDiff, Nat.reduceLT, Nat.reduceLeDiff, Int.reduceLT, Int.reduceLE, Int.reduceEq, Int.reduceAdd, Int.reduceSub, Int.reduceNeg, Int.reduceToNat, Nat.reduceAdd, Nat.reduceMul, Nat.reduceSub, reduceCtorEq, RC, Int.cast_ofNat_Int, hn, g7, g8, hr.sliceL hlen, hr.sliceH hlen]
    have hsub := hr.sub 0 x (by rw [hlen]; omega) (by intro e; rw [e] at hlen; simp at hlen; omega)
    have e3 : ((List.replicate x (I (-1)) ++ List.replicate (N - x) (Value.int .i64 0)).drop (0 * (0 + 1))).take (x * (0 + 1)) = List.replicate x (I (-1)) := by
      simp [List.take_append]
    rw [e3] at hsub
    refine hS.eCopy1 0 rfl hsub x (N - x) (by rw [hlen]; omega) (by omega) (by simp; omega) tE29 fun H4 hS => ?_
    have e4 : (List.replicate x (I (-1))).take (min (List.replicate x (I (-1))).length (N - x)) = List.replicate (min x (N - x)) (I (-1)) := by simp
    rw [e4] at hS
    have e5 : min (List.replicate x (I (-1))).length (N - x) = min x (N - x) := by simp
    rw [e5]
    have e6 := setMany_replicate (I (-1)) (.int .i64 0) (min x (N - x)) x N (by omega)
    have hS : St Try.prog H1 H4 [⟨w, 1, List.replicate (x + min x (N - x)) (I (-1)) ++ List.replicate (N - (x + min x (N - x))) (.int .i64 0)⟩] := by
      rw [← e6]; exact hS
    repeat first | (with_reducible first | refine Wp.seq ?_ | refine Wp.reg ?_ | refine Wp.block ?_ | refine Wp.skip ?_ | refine Wp.ret ?_ | refine Wp.exit ?_ | refine Wp.label ?_ | refine Wp.condG ?_) | simp (disch := omega) only [↓RP, RQ, TS, TR, ↓reduceIte, Nat.reduceEqDiff, Nat.reduceLT, Nat.reduceLeDiff, Int.reduceLT, Int.reduceLE, Int.reduceEq, Int.reduceAdd, Int.reduceSub, Int.reduceNeg, Int.reduceToNat, Nat.reduceAdd, Nat.reduceMul, Nat.reduceSub, reduceCtorEq, RC, Int.cast_ofNat_Int, hn, g7, g8, wrap_fit]
    exact ⟨N - (x + min x (N - x)), by omega, x + min x (N - x), by omega, by omega, by simp, hS⟩
  · repeat first | (with_reducible first | refine Wp.seq ?_ | refine Wp.reg ?_ | refine Wp.block ?_ | refine Wp.skip ?_ | refine Wp.ret ?_ | refine Wp.exit ?_ | refine Wp.label ?_ | refine Wp.condG ?_) | simp (disch := omega) only [↓RP, RQ, TS, TR, ↓reduceIte, Nat.reduceEqDiff, Nat.reduceLT, Nat.reduceLeDiff, Int.reduceLT, Int.reduceLE, Int.reduceEq, Int.reduceAdd, Int.reduceSub, Int.reduceNeg, Int.reduceToNat, Nat.reduceAdd, Nat.reduceMul, Nat.reduceSub, reduceCtorEq, RC, Int.cast_ofNat_Int, hn, g7, g8]
    have e : x = N := by omega
    subst e
    simpa using hS
end Go.Ds
/-
  Plain graphs: walks, distances, and a search in breadth. No program in sight.
-/
namespace Go.Plain

/-- A walk of n edges leads from a to b. -/
def W (es : List (Nat × Nat)) : Nat → Nat → Nat → Prop
  | 0, a, b => a = b
  | n + 1, a, b => ∃ c, W es n a c ∧ (c, b) ∈ es

/-- A table of distances from a node; -1 where no walk leads. -/
structure IsD (es : List (Nat × Nat)) (N s : Nat) (d : List Int) : Prop where
  len : d.length = N
  neg : ∀ k, k < N → d.getD k 0 < 0 → d.getD k 0 = -1 ∧ ∀ n, ¬ W es n s k
  pos : ∀ k, k < N → 0 ≤ d.getD k 0 → W es (d.getD k 0).toNat s k ∧ ∀ n, W es n s k → (d.getD k 0).toNat ≤ n

def cnt (d : List Int) : Nat := d.countP (fun x => decide (x < 0))

theorem getD_set (d : List Int) (t : Nat) (v : Int) (k : Nat) (ht : t < d.length) : (d.set t v).getD k 0 = if k = t then v else d.getD k 0 := by
  simp only [List.getD_eq_getElem?_getD, List.getElem?_set]
  by_cases h : t = k
  · subst h; simp [ht]
  · simp [h, Ne.symm h]

theorem cnt_set (d : List Int) (t : Nat) (v : Int) (ht : t < d.length) (h1 : d.getD t 0 < 0) (h2 : 0 ≤ v) : cnt (d.set t v) + 1 = cnt d := by
  induction d generalizing t with
  | nil => simp at ht
  | cons a d ih =>
    cases t with
    | zero =>
      simp only [List.getD_cons_zero] at h1
      have h3 : ¬ v < 0 := by omega
      simp [cnt, List.countP_cons, h1, h3]
    | succ t =>
      have := ih t (by simpa using ht) (by simpa using h1)
      simp only [cnt, List.set_cons_succ, List.countP_cons] at this ⊢
      omega

structure Bg (es : List (Nat × Nat)) (N s x : Nat) (pre : List Nat) (d : List Int) (q : List Nat) : Prop where
  len : d.length = N
  xN : x < N ∧ 0 ≤ d.getD x 0
  qN : ∀ y ∈ q, y < N ∧ 0 ≤ d.getD y 0
  low : ∀ k, k < N → -1 ≤ d.getD k 0
  src : s < N ∧ d.getD s 0 = 0
  sound : ∀ k, k < N → 0 ≤ d.getD k 0 → W es (d.getD k 0).toNat s k
  near : ∀ k, k < N → ∀ y ∈ q, d.getD k 0 ≤ d.getD y 0 + 1
  nearx : ∀ k, k < N → d.getD k 0 ≤ d.getD x 0 + 1
  xq : ∀ y ∈ q, d.getD x 0 ≤ d.getD y 0
  sorted : q.Pairwise fun y z => d.getD y 0 ≤ d.getD z 0
  fin : ∀ k, k < N → 0 ≤ d.getD k 0 → k ∉ q → k ≠ x → ∀ j, (k, j) ∈ es → 0 ≤ d.getD j 0 ∧ d.getD j 0 ≤ d.getD k 0 + 1
  part : ∀ j ∈ pre, 0 ≤ d.getD j 0
  size : ∀ k, k < N → d.getD k 0 + cnt d ≤ N

structure Bf (es : List (Nat × Nat)) (N s : Nat) (d : List Int) (q : List Nat) : Prop where
  len : d.length = N
  qN : ∀ y ∈ q, y < N ∧ 0 ≤ d.getD y 0
  low : ∀ k, k < N → -1 ≤ d.getD k 0
  src : s < N ∧ d.getD s 0 = 0
  sound : ∀ k, k < N → 0 ≤ d.getD k 0 → W es (d.getD k 0).toNat s k
  near : ∀ k, k < N → ∀ y ∈ q, d.getD k 0 ≤ d.getD y 0 + 1
  sorted : q.Pairwise fun y z => d.getD y 0 ≤ d.getD z 0
  fin : ∀ k, k < N → 0 ≤ d.getD k 0 → k ∉ q → ∀ j, (k, j) ∈ es → 0 ≤ d.getD j 0 ∧ d.getD j 0 ≤ d.getD k 0 + 1
  size : ∀ k, k < N → d.getD k 0 + cnt d ≤ N

theorem Bf.pop {es : List (Nat × Nat)} {N s x : Nat} {d : List Int} {q : List Nat} (h : Bf es N s d (x :: q)) : Bg es N s x [] d q where
  len := h.len
  xN := h.qN x (List.mem_cons_self ..)
  qN y hy := h.qN y (List.mem_cons_of_mem _ hy)
  low := h.low
  src := h.src
  sound := h.sound
  near k hk y hy := h.near k hk y (List.mem_cons_of_mem _ hy)
  nearx k hk := h.near k hk x (List.mem_cons_self ..)
  xq := (List.pairwise_cons.1 h.sorted).1
  sorted := (List.pairwise_cons.1 h.sorted).2
  fin k hk h0 hq hx j hj := h.fin k hk h0 (fun hm => by
    rcases List.mem_cons.1 hm with e | e
    · exact hx e
    · exact hq e) j hj
  part j hj := by cases hj
  size := h.size

theorem Bg.shut {es : List (Nat × Nat)} {N s x : Nat} {pre : List Nat} {d : List Int} {q : List Nat} (h : Bg es N s x pre d q) (hp : ∀ j, (x, j) ∈ es → j ∈ pre ∧ j < N) : Bf es N s d q where
  len := h.len
  qN := h.qN
  low := h.low
  src := h.src
  sound := h.sound
  near := h.near
  sorted := h.sorted
  fin k hk h0 hq j hj := by
    by_cases e : k = x
    · subst e
      have := hp j hj
      exact ⟨h.part j this.1, h.nearx j this.2⟩
    · exact h.fin k hk h0 hq e j hj
  size := h.size

theorem Bg.old {es : List (Nat × Nat)} {N s x : Nat} {pre : List Nat} {d : List Int} {q : List Nat} (h : Bg es N s x pre d q) (t : Nat) (h0 : 0 ≤ d.getD t 0) : Bg es N s x (pre ++ [t]) d q :=
  have hp : ∀ j ∈ pre ++ [t], 0 ≤ d.getD j 0 := fun j hj => by
    rcases List.mem_append.1 hj with hj | hj
    · exact h.part j hj
    · rw [List.mem_singleton.1 hj]; exact h0
  ⟨h.len, h.xN, h.qN, h.low, h.src, h.sound, h.near, h.nearx, h.xq, h.sorted, h.fin, hp, h.size⟩

theorem Bg.new {es : List (Nat × Nat)} {N s x : Nat} {pre : List Nat} {d : List Int} {q : List Nat} (h : Bg es N s x pre d q) (t : Nat) (ht : t < N) (hx : (x, t) ∈ es) (h0 : d.getD t 0 < 0) :
    Bg es N s x (pre ++ [t]) (d.set t (d.getD x 0 + 1)) (q ++ [t]) := by
  have hg : ∀ k, (d.set t (d.getD x 0 + 1)).getD k 0 = if k = t then d.getD x 0 + 1 else d.getD k 0 := fun k => getD_set d t _ k (by rw [h.len]; exact ht)
  have hxt : x ≠ t := fun e => by have := h.xN.2; rw [e] at this; omega
  have hst : s ≠ t := fun e => by have := h.src.2; rw [e] at this; omega
  have hqt : ∀ y ∈ q, y ≠ t := fun y hy e => by have := (h.qN y hy).2; rw [e] at this; omega
  have hgx : (d.set t (d.getD x 0 + 1)).getD x 0 = d.getD x 0 := by rw [hg, if_neg hxt]
  have hgq : ∀ y ∈ q, (d.set t (d.getD x 0 + 1)).getD y 0 = d.getD y 0 := fun y hy => by rw [hg, if_neg (hqt y hy)]
  have hgt : (d.set t (d.getD x 0 + 1)).getD t 0 = d.getD x 0 + 1 := by rw [hg, if_pos rfl]
  have hx0 := h.xN.2
  have hup : ∀ k, d.getD k 0 ≤ (d.set t (d.getD x 0 + 1)).getD k 0 := fun k => by
    rw [hg]; split
    · rename_i e; subst e; omega
    · exact Int.le_refl _
  have hnx : ∀ k, k < N → (d.set t (d.getD x 0 + 1)).getD k 0 ≤ d.getD x 0 + 1 := fun k hk => by
    rw [hg]; split
    · exact Int.le_refl _
    · exact h.nearx k hk
  refine ⟨by rw [List.length_set]; exact h.len, ⟨h.xN.1, by rw [hgx]; exact hx0⟩, ?_, ?_, ⟨h.src.1, by rw [hg, if_neg hst]; exact h.src.2⟩, ?_, ?_, ?_, ?_, ?_, ?_, ?_, ?_⟩
  · intro y hy
    rcases List.mem_append.1 hy with hy | hy
    · rw [hgq y hy]; exact h.qN y hy
    · rw [List.mem_singleton.1 hy, hgt]; exact ⟨ht, by omega⟩
  · intro k hk
    have := h.low k hk
    have := hup k
    omega
  · intro k hk hk0
    rw [hg] at hk0 ⊢
    split
    · rename_i e
      subst e
      have e2 : (d.getD x 0 + 1).toNat = (d.getD x 0).toNat + 1 := by omega
      rw [e2]
      exact ⟨x, h.sound x h.xN.1 hx0, hx⟩
    · rename_i e
      rw [if_neg e] at hk0
      exact h.sound k hk hk0
  · intro k hk y hy
    have h1 := hnx k hk
    rcases List.mem_append.1 hy with hy | hy
    · rw [hgq y hy]
      have := h.xq y hy
      omega
    · rw [List.mem_singleton.1 hy, hgt]
      omega
  · intro k hk
    rw [hgx]
    exact hnx k hk
  · intro y hy
    rw [hgx]
    rcases List.mem_append.1 hy with hy | hy
    · rw [hgq y hy]; exact h.xq y hy
    · rw [List.mem_singleton.1 hy, hgt]; omega
  · rw [List.pairwise_append]
    refine ⟨h.sorted.imp_of_mem ?_, List.pairwise_singleton _ _, ?_⟩
    · intro a b ha hb hab
      rw [hgq a ha, hgq b hb]; exact hab
    · intro y hy z hz
      rw [List.mem_singleton.1 hz, hgt, hgq y hy]
      exact h.nearx y (h.qN y hy).1
  · intro k hk hk0 hq hkx j hj
    have hkt : k ≠ t := fun e => hq (by rw [e]; simp)
    have hkq : k ∉ q := fun hm => hq (List.mem_append_left _ hm)
    have e1 : (d.set t (d.getD x 0 + 1)).getD k 0 = d.getD k 0 := by rw [hg, if_neg hkt]
    rw [e1] at hk0 ⊢
    have h3 := h.fin k hk hk0 hkq hkx j hj
    have hjt : j ≠ t := fun e => by rw [e] at h3; omega
    rw [hg, if_neg hjt]
    exact h3
  · intro j hj
    rcases List.mem_append.1 hj with hj | hj
    · have := h.part j hj
      have := hup j
      omega
    · rw [List.mem_singleton.1 hj, hgt]; omega
  · intro k hk
    have h1 := cnt_set d t (d.getD x 0 + 1) (by rw [h.len]; exact ht) h0 (by omega)
    have h2 := h.size k hk
    have h3 := h.size x h.xN.1
    rw [hg]
    split <;> omega

theorem Bf.first {es : List (Nat × Nat)} {N s : Nat} (hs : s < N) : Bf es N s ((List.replicate N (-1 : Int)).set s 0) [s] := by
  have hg : ∀ k, ((List.replicate N (-1 : Int)).set s 0).getD k 0 = if k = s then 0 else (List.replicate N (-1 : Int)).getD k 0 := fun k => getD_set _ s _ k (by simpa using hs)
  have hr : ∀ k, k < N → (List.replicate N (-1 : Int)).getD k 0 = -1 := fun k hk => by simp [List.getD_eq_getElem?_getD, hk]
  have hc : cnt ((List.replicate N (-1 : Int)).set s 0) + 1 = N := by
    rw [cnt_set _ _ _ (by simpa using hs) (by rw [hr s hs]; omega) (Int.le_refl _)]
    simp [cnt, List.countP_replicate]
  have hb : ∀ k, k < N → ((List.replicate N (-1 : Int)).set s 0).getD k 0 = 0 ∧ k = s ∨ ((List.replicate N (-1 : Int)).set s 0).getD k 0 = -1 := fun k hk => by
    rw [hg]
    by_cases e : k = s
    · left; simp [e]
    · right; rw [if_neg e, hr k hk]
  have hss : ((List.replicate N (-1 : Int)).set s 0).getD s 0 = 0 := by rw [hg, if_pos rfl]
  refine ⟨by simp, ?_, ?_, ⟨hs, hss⟩, ?_, ?_, List.pairwise_singleton _ _, ?_, ?_⟩
  · intro y hy
    rw [List.mem_singleton.1 hy, hss]
    exact ⟨hs, Int.le_refl _⟩
  · intro k hk
    rcases hb k hk with h | h <;> omega
  · intro k hk h0
    rcases hb k hk with h | h
    · rw [h.1, h.2]; rfl
    · omega
  · intro k hk y hy
    rw [List.mem_singleton.1 hy, hss]
    rcases hb k hk with h | h <;> omega
  · intro k hk h0 hq j hj
    rcases hb k hk with h | h
    · exact (hq (by simp [h.2])).elim
    · omega
  · intro k hk
    rcases hb k hk with h | h <;> omega

theorem Bf.isD {es : List (Nat × Nat)} {N s : Nat} {d : List Int} (h : Bf es N s d []) (hv : ∀ e ∈ es, e.1 < N ∧ e.2 < N) : IsD es N s d := by
  have key : ∀ n k, W es n s k → k < N ∧ 0 ≤ d.getD k 0 ∧ d.getD k 0 ≤ n := by
    intro n
    induction n with
    | zero =>
      intro k hk
      have e : s = k := hk
      subst e
      exact ⟨h.src.1, by rw [h.src.2]; exact Int.le_refl _, by rw [h.src.2]; exact Int.le_refl _⟩
    | succ n ih =>
      rintro k ⟨c, hc, hck⟩
      obtain ⟨h1, h2, h3⟩ := ih c hc
      have h4 := h.fin c h1 h2 (by simp) k hck
      refine ⟨(hv _ hck).2, h4.1, ?_⟩
      have := h4.2
      omega
  refine ⟨h.len, ?_, ?_⟩
  · intro k hk h0
    refine ⟨by have := h.low k hk; omega, fun n hn => ?_⟩
    have := (key n k hn).2.1
    omega
  · intro k hk h0
    refine ⟨h.sound k hk h0, fun n hn => ?_⟩
    have := (key n k hn).2.2
    omega
end Go.Plain
