/-
  Ds: rules to reason with.
-/
import Derived.Test.YtoanhpaipfgnfaaDsN
set_option linter.unusedVariables false
set_option linter.unusedSimpArgs false
namespace Go.Ds
section
variable {P : Program} {ρ : Rho} {H : Heap} {w : World}

/-! ### Sim, rule by rule -/
theorem Sim.skip (l : List Value) (H : Heap) : Sim P .skip l H .normal l H := fun ro k B ρ w a hr hE hl hM hB => wpIn_skip ⟨rfl, ρ, .refl hr, hE, hM⟩
theorem Sim.label (t : Nat) (l : List Value) (H : Heap) : Sim P (.label t) l H .normal l H := fun ro k B ρ w a hr hE hl hM hB => wpIn_label ⟨rfl, ρ, .refl hr, hE, hM⟩
theorem Sim.exit (id : Nat) (l : List Value) (H : Heap) : Sim P (.exit id) l H (.exit id) l H := fun ro k B ρ w a hr hE hl hM hB => wpIn_exit ⟨rfl, ρ, .refl hr, hE, hM⟩
theorem Sim.ret (l : List Value) (H : Heap) : Sim P .ret l H .ret l H := fun ro k B ρ w a hr hE hl hM hB => wpIn_ret ⟨rfl, ρ, .refl hr, hE, hM⟩

theorem Sim.seq {a b : Code} {l : List Value} {H : Heap} {l1 : List Value} {H1 : Heap} {e : Ex} {l2 : List Value} {H2 : Heap} (h1 : Sim P a l H .normal l1 H1) (h2 : Sim P b l1 H1 e l2 H2) : Sim P (.seq a b) l H e l2 H2 :=
  fun ro k B ρ w a hr hE hl hM hB => wpIn_seq (QD.then_ h1 h2 hr hE hl hM hB)

theorem Sim.seq' {a b : Code} {l : List Value} {H : Heap} {e : Ex} {l2 : List Value} {H2 : Heap} (h1 : Sim P a l H e l2 H2) (hne : e ≠ .normal) : Sim P (.seq a b) l H e l2 H2 :=
  fun ro k B ρ w a hr hE hl hM hB => wpIn_seq (wpIn_mono (h1 ro k B ρ w a hr hE hl hM hB) fun e' a' w' hq => then_mono hne hq)

theorem Sim.cond {c : Operand} {t : Bool} {x y : Code} {l : List Value} {H : Heap} {e : Ex} {l2 : List Value} {H2 : Heap} (hc : ev l c = .bool t) (hok : operandOk c = true) (h : Sim P (if t then x else y) l H e l2 H2) : Sim P (.cond c x y) l H e l2 H2 :=
  fun ro k B ρ w a hr hE hl hM hB => by
    have hv := ev_ok hE hok
    rw [hc] at hv
    exact wpIn_cond hv.bool_inv (h ro k B ρ w a hr hE hl hM hB)

/-- How a block's code ends the block. -/
def Ex.out (id : Nat) : Ex → Ex
  | .exit i => if i = id then .normal else .exit i
  | e => e

theorem Sim.block {id : Nat} {b : Code} {l : List Value} {H : Heap} {e : Ex} {l2 : List Value} {H2 : Heap} (h : Sim P b l H e l2 H2) : Sim P (.block id b) l H (e.out id) l2 H2 :=
  fun ro k B ρ w a hr hE hl hM hB => wpIn_block (wpIn_mono (h ro k B ρ w a hr hE hl hM hB) fun e' a' w' hq => inBlock_mono (by cases e <;> rfl) hq)

theorem roundsIn_mono {F : Fence} {k : Nat} {c : Code} {Q Q' : Exit → Act → World → Prop} (h : ∀ e a w, Q e a w → Q' e a w) : ∀ (m : Nat) (a : Act) (w : World), Code.roundsIn F k P c Q m a w → Code.roundsIn F k P c Q' m a w
  | 0, _, _, hh => hh
  | m + 1, a, w, hh => by
    rw [roundsIn_succ] at hh ⊢
    refine wpIn_mono hh ?_
    intro e3 a3 w3 hq
    cases e3 <;> first | exact roundsIn_mono h m _ _ hq | exact h _ _ _ hq

/-- A loop's rounds. -/
inductive Rounds (P : Program) (c : Code) : Nat → List Value → Heap → Ex → List Value → Heap → Prop where
  | last {l : List Value} {H : Heap} {e : Ex} {l' : List Value} {H' : Heap} (h : Sim P c l H e l' H') (hne : e ≠ .normal) : Rounds P c 1 l H e l' H'
  | more {n : Nat} {l : List Value} {H : Heap} {l1 : List Value} {H1 : Heap} {e : Ex} {l' : List Value} {H' : Heap} (h : Sim P c l H .normal l1 H1) (hh : Rounds P c n l1 H1 e l' H') : Rounds P c (n + 1) l H e l' H'

theorem Rounds.sound {c : Code} {n : Nat} {l : List Value} {H : Heap} {e : Ex} {l' : List Value} {H' : Heap} (h : Rounds P c n l H e l' H') :
    ∀ (ro : Option Nat) (k B : Nat) (ρ : Rho) (w : World) (a : Act), HRel P ρ H w → All2 (V ρ) l a.tmps.toList → LoopAt ro w → Marks B w a.defers → B ≤ w.heap.size → Code.roundsIn (fe ro) k P c (QD P ρ H w B e l' H') n a w := by
  induction h with
  | last h hne =>
    intro ro k B ρ w a hr hE hl hM hB
    rw [roundsIn_succ]
    exact wpIn_mono (h ro k B ρ w a hr hE hl hM hB) fun e' a' w' hq => then_mono hne hq
  | more h hh ih =>
    intro ro k B ρ w a hr hE hl hM hB
    rw [roundsIn_succ]
    refine wpIn_mono (h ro k B ρ w a hr hE hl hM hB) ?_
    rintro e' a' w' ⟨he, ρ', hp, hE', hM'⟩
    subst he
    exact roundsIn_mono (fun _ _ _ hq => hq.trans hp) _ _ _ (ih ro k B ρ' w' a' hp.rel hE' (hl.post hp) hM' (Nat.le_trans hB hp.size))

theorem Sim.loop {c : Code} {n : Nat} {l : List Value} {H : Heap} {e : Ex} {l' : List Value} {H' : Heap} (h : Rounds P c n l H e l' H') : Sim P (.loop c) l H e l' H' :=
  fun ro k B ρ w a hr hE hl hM hB => wpIn_loop_rounds n (h.sound ro k B ρ w a hr hE hl hM hB)

theorem Sim.region {id : Nat} {ops : Array Oper} {l : List Value} {H : Heap} {l' : List Value} {H' : Heap} (h : OpsR P ops (List.range ops.size) l H l' H') : Sim P (.region id ops false) l H .normal l' H' :=
  fun ro k B ρ w a hr hE hl hM hB => wpIn_region (h.sound ro k ρ w a hr hE (by
    rintro a' w' ⟨ρ', hp, hE', hd⟩
    exact ⟨rfl, ρ', hp, hE', by rw [hd]; exact hM.post hr hp⟩))

theorem Sim.draw (hmix : P.follows .mixedOrders = true) {id : Nat} {ops : Array Oper} {tab : List (Nat × Nat)} (htab : drawTab ops = some tab) {T : Nat → List Value × Heap} {val : Nat → Value} (X : Text P ops T val)
    (hread : ∀ i m o, (i, m) ∈ tab → ops[i]? = some o → Region.wanted o (yieldedD ops (T i).1) = true → ∃ H2, opD P o (T i).1 (T m).2 = some (val i, H2)) :
    Sim P (.region id ops true) (T 0).1 (T 0).2 .normal (T ops.size).1 (T ops.size).2 := by
  intro ro k B ρ w a hr hE hl hM hB
  unfold drawTab at htab
  split at htab
  case isFalse => cases htab
  rename_i hord
  obtain rfl := Option.some.inj htab
  have D := draw_of hord
  refine wpIn_region_any hmix ?_
  have hdrew : Post P ρ (T 0).2 w ρ (T 0).2 { w with drawn := w.drawn + 1 } := Post.drew hr
  refine any_ok (ρ0 := ρ) (W0 := w) (ds := a.defers) X D hread ro k ?_ ops.size _ (List.range ops.size) (by simp) (fun i hi _ => List.mem_range.2 hi) (by simp) (fun _ => 0) 0 ρ a _ ?_ (.inl rfl)
  · intro ρ' a' w' h1 h2 h3
    exact ⟨rfl, ρ', h1, h2, by rw [h3]; exact hM.post hr h1⟩
  · have hfalse : ∀ j, ¬ (Array.replicate ops.size false).getD j false = true := fun j => by
      rw [Array.getD_eq_getD_getElem?, Array.getElem?_replicate]
      split <;> simp
    exact ⟨Nat.zero_le _, hdrew, fun j _ hj => absurd hj (hfalse j), fun i o ho hm => ⟨fun h => absurd h (hfalse i), fun h => absurd h (Nat.not_lt_zero _)⟩, fun i o ho ha hi => absurd hi (Nat.not_lt_zero _), fun i o t ho ha hi hS => absurd hS (hfalse i),
      fun i j x y hx hy h1 h2 h3 h4 h5 => absurd h5 (hfalse i), by simpa using hE.length.symm, fun t _ => get_ok hE t, fun i o t hS => absurd hS (hfalse i), rfl⟩

/-- A function, out of its body. -/
theorem CallOk.of_sim {f : FuncId} {fn : Func} {c : Code} {args : List Value} {e : Ex} {l1 : List Value} {H1 : Heap} {v : Value} (hf : P.funcs[f]? = some fn) (hb : fn.body = some c) (hn : (fn.name == "runtime.NumGoroutine") = false)
    (hs : Sim P c (args ++ List.replicate (fn.ntmps - args.length) undef) H e l1 H1) (he : e = .normal ∨ e = .ret) (hres : resultsD P fn l1 H1 = some v) : CallOk P f args H v H1 := by
  classical
  let ex : Run := fun c' l' H' => if c' = c ∧ l' = args ++ List.replicate (fn.ntmps - args.length) undef ∧ H' = H then some (e, l1, H1) else none
  have hex : ∀ c l H e l' H', ex c l H = some (e, l', H') → Sim P c l H e l' H' := by
    intro c' l' H' e' l2 H2 h
    simp only [ex] at h
    split at h
    · rename_i hh
      obtain ⟨rfl, rfl, rfl⟩ := hh
      injection h with h
      injection h with h1 h
      injection h with h2 h3
      subst h1 h2 h3
      exact hs
    · cases h
  refine callF_ok hex ?_
  unfold callF
  have h1 : ex c (args ++ List.replicate (fn.ntmps - args.length) undef) H = some (e, l1, H1) := by simp [ex]
  rw [hf]
  simp only [hb, hn, Bool.false_eq_true, if_false, h1]
  rcases he with rfl | rfl <;> simp [hres]

theorem CallOk.of_run (hmix : P.follows .mixedOrders = true) {n : Nat} {f : FuncId} {args : List Value} {v : Value} {H' : Heap} (hc : callF P (exD P n) f args H = some (v, H')) : CallOk P f args H v H' := callF_ok (exD_ok hmix n).1 hc

/-- The heap of the model, with nothing of ours. -/
theorem HRel.empty (w : World) : HRel P (fun _ _ => none) .nil w where
  dom _ _ _ h := by cases h
  cells _ _ _ _ _ _ h := by rw [hget_none (Nat.zero_le _)] at h; cases h
  map _ _ _ _ h := by rw [hget_none (Nat.zero_le _)] at h; cases h
  loop _ _ h := by rw [hget_none (Nat.zero_le _)] at h; cases h
  one _ _ _ _ h := by cases h
  excl _ _ _ _ _ _ _ h := by cases h
  full _ h := absurd h (Nat.not_lt_zero _)

/-- **A closed call that gives a plain value may be made at any heap, and leaves it.** -/
theorem CallOk.closed {f : FuncId} {v : Value} (hv : flat v = true) {H1 : Heap} (h : CallOk P f [] .nil v H1) (H : Heap) : CallOk P f [] H v H := by
  intro k ρ w args' hr ha
  have ha' : All2 (V (fun _ _ => none)) [] args'.toList := by
    cases hh : args'.toList with
    | nil => trivial
    | cons x xs => rw [hh] at ha; exact ha.elim
  refine (h k (fun _ _ => none) w args' (.empty w) ha').mono ?_
  rintro e w' ⟨ρ', v', rfl, hp, hv'⟩
  have hframe : ∀ b, b < w.heap.size → w'.heap[b]? = w.heap[b]? := fun b hb => (hp.frame b hb (by rintro ⟨A, e, p, blk, hq, _⟩; cases hq)).1
  refine ⟨ρ, v', rfl, ?_, ?_⟩
  · exact {
      le := .refl ρ
      rel := hr.other hp.size fun A e p hq => hframe _ (hr.dom _ _ _ hq).2
      len := Nat.le_refl _
      size := hp.size
      os := hp.os
      tape := hp.tape
      output := hp.output
      frame := fun b hb hw => ⟨hframe b hb, hw⟩
      loops := fun b r h => ⟨r, by rw [hframe b (blk_lt h), h]⟩
      img := fun _ _ h => h }
  · rw [hv'.eq_of_flat hv]
    exact .of_flat hv
end
end Go.Ds
