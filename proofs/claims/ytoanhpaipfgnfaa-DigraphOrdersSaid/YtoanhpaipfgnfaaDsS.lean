/-
  Ds: a calculus that goes from the end to the beginning.
-/
import Derived.Test.YtoanhpaipfgnfaaDsR
set_option linter.unusedVariables false
set_option linter.unusedSimpArgs false
namespace Go.Ds
section
variable {P : Program} {ρ : Rho} {H : Heap} {w : World}

abbrev Out := Ex → List Value → Heap → Prop

/-- A mark: what it stands beside is left as it is by a simplifier. -/
structure Keep {α : Sort _} (a : α) : Type where

def bindW (r : Option (Value × Heap)) (K : Value → Heap → Prop) (_k : Keep K := ⟨⟩) : Prop :=
  match r with
  | some (v, H1) => K v H1
  | none => False

@[simp] theorem bindW_some (v : Value) (H1 : Heap) (K : Value → Heap → Prop) : bindW (some (v, H1)) K = K v H1 := rfl

/-- What a call of a function value needs. -/
def callW (P : Program) (f : Value) (args : List Value) (H : Heap) (K : Value → Heap → Prop) (_k : Keep K := ⟨⟩) : Prop :=
  match f with
  | .func (.func k) first captured => ∃ v H1, Entered P k ∧ CallOk P k (first.toList ++ args ++ captured.toList) H v H1 ∧ K v H1
  | .func (.yield L) _ _ => ∃ v H1, RoundOk P L args H v H1 ∧ K v H1
  | _ => False

def opW (P : Program) (o : Oper) (l : List Value) (H : Heap) (K : Value → Heap → Prop) : Prop :=
  o.op.operands.toList.all operandOk = true ∧
  match o.op with
  | .move x => K (ev l x) H
  | .assign x => K (ev l x) H
  | .call c => match c.callee with
    | .value f => callW P (ev l f) (c.args.toList.map (ev l)) H K
    | _ => bindW (opD P o l H) K
  | _ => bindW (opD P o l H) K

theorem opW_sound {o : Oper} {l : List Value} {K : Value → Heap → Prop} (h : opW P o l H K) : ∃ v H1, StepR P o l H v H1 ∧ K v H1 := by
  obtain ⟨dst, op, type, pos, after, guard⟩ := o
  obtain ⟨hok, h⟩ := h
  have plain : bindW (opD P ⟨dst, op, type, pos, after, guard⟩ l H) K → ∃ v H1, StepR P ⟨dst, op, type, pos, after, guard⟩ l H v H1 ∧ K v H1 := fun h => by
    unfold bindW at h
    split at h
    · rename_i v H1 h1
      exact ⟨v, H1, .op hok h1, h⟩
    · exact h.elim
  simp only at h
  split at h
  · exact ⟨_, _, .op hok rfl, h⟩
  · exact ⟨_, _, .op hok rfl, h⟩
  · rename_i c
    split at h
    · rename_i f hf
      unfold callW at h
      split at h
      · rename_i k first captured hev
        obtain ⟨v, H1, h1, h2, h3⟩ := h
        exact ⟨v, H1, .call hok c f k first captured rfl hf hev h1 h2, h3⟩
      · rename_i L b d hev
        obtain ⟨v, H1, h1, h2⟩ := h
        exact ⟨v, H1, .round hok c f L b d rfl hf hev h1, h2⟩
      · exact h.elim
    · exact plain h
  · exact plain h

/-- Operations in text order; what they give is kept in the list of states. -/
def opsW (P : Program) (ops : Array Oper) : List Oper → List Value → Heap → (List Value → Heap → Prop) → Prop
  | [], l, H, K => K l H
  | o :: os, l, H, K => if Region.wanted o (yieldedD ops l) = true then opW P o l H fun v H1 => opsW P ops os (put l o.dst v) H1 K else opsW P ops os (put l o.dst undef) H K

theorem opsW_sound {ops : Array Oper} {K : List Value → Heap → Prop} : ∀ (os : List Oper) (i : Nat), ops.toList.drop i = os → ∀ (l : List Value) (H : Heap), opsW P ops os l H K →
    ∃ l' H', OpsR P ops (List.range' i os.length) l H l' H' ∧ K l' H'
  | [], i, _, l, H, h => ⟨l, H, .nil l H, h⟩
  | o :: os, i, hd, l, H, h => by
    have ho : ops[i]? = some o := by
      have : (ops.toList.drop i)[0]? = some o := by rw [hd]; rfl
      rw [List.getElem?_drop] at this
      simpa using this
    have hd' : ops.toList.drop (i + 1) = os := by
      rw [← List.drop_drop, hd]; rfl
    unfold opsW at h
    rw [List.length_cons, List.range'_succ]
    split at h
    · rename_i hw
      obtain ⟨v, H1, h1, h2⟩ := opW_sound h
      obtain ⟨l', H', h3, h4⟩ := opsW_sound os (i + 1) hd' _ _ h2
      exact ⟨l', H', .step ho hw h1 h3, h4⟩
    · rename_i hw
      obtain ⟨l', H', h3, h4⟩ := opsW_sound os (i + 1) hd' _ _ h
      exact ⟨l', H', .past ho (by simpa using hw) h3, h4⟩

theorem opsR_of_W {ops : Array Oper} {l : List Value} {K : List Value → Heap → Prop} (h : opsW P ops ops.toList l H K) : ∃ l' H', OpsR P ops (List.range ops.size) l H l' H' ∧ K l' H' := by
  obtain ⟨l', H', h1, h2⟩ := opsW_sound ops.toList 0 rfl l H h
  refine ⟨l', H', ?_, h2⟩
  rw [List.range_eq_range']
  simpa using h1

/-- The states of a run, out of its steps. -/
theorem text_of {ops : Array Oper} : ∀ (is : List Nat) (l : List Value) (H : Heap) (l' : List Value) (H' : Heap), OpsR P ops is l H l' H' →
    ∃ (T : Nat → List Value × Heap) (val : Nat → Value), T 0 = (l, H) ∧ T is.length = (l', H') ∧ ∀ k i, is[k]? = some i → StepT P ops i (T k) (T (k + 1)) (val k) := by
  intro is l H l' H' h
  have key : ∀ {i : Nat} {is : List Nat} {l : List Value} {H : Heap} {l1 : List Value} {H1 : Heap} {v : Value} {l' : List Value} {H' : Heap}, StepT P ops i (l, H) (l1, H1) v →
      (∃ (T : Nat → List Value × Heap) (val : Nat → Value), T 0 = (l1, H1) ∧ T is.length = (l', H') ∧ ∀ k i, is[k]? = some i → StepT P ops i (T k) (T (k + 1)) (val k)) →
      ∃ (T : Nat → List Value × Heap) (val : Nat → Value), T 0 = (l, H) ∧ T (i :: is).length = (l', H') ∧ ∀ k j, (i :: is)[k]? = some j → StepT P ops j (T k) (T (k + 1)) (val k) := by
    intro i is l H l1 H1 v l' H' hst ⟨T, val, h0, h1, h4⟩
    refine ⟨fun k => match k with | 0 => (l, H) | k + 1 => T k, fun k => match k with | 0 => v | k + 1 => val k, rfl, h1, ?_⟩
    intro k j hj
    cases k with
    | zero =>
      simp at hj
      subst hj
      simp only [h0]
      exact hst
    | succ k => exact h4 k j (by simpa using hj)
  induction h with
  | nil l H => exact ⟨fun _ => (l, H), fun _ => undef, rfl, rfl, by simp⟩
  | step ho hw hs rest ih => exact key ⟨_, ho, rfl, .inl ⟨hw, hs⟩⟩ ih
  | past ho hw rest ih => exact key ⟨_, ho, rfl, .inr ⟨hw, rfl, rfl⟩⟩ ih

/-- A region that draws, none of whose reads floats. -/
theorem Sim.draw0 (hmix : P.follows .mixedOrders = true) {id : Nat} {ops : Array Oper} (htab : drawTab ops = some []) {l : List Value} {H : Heap} {l' : List Value} {H' : Heap} (h : OpsR P ops (List.range ops.size) l H l' H') :
    Sim P (.region id ops true) l H .normal l' H' := by
  obtain ⟨T, val, h0, h1, h2⟩ := text_of _ _ _ _ _ h
  rw [List.length_range] at h1
  have := Sim.draw hmix (id := id) htab (T := T) (val := val) ⟨fun k hk => h2 k k (by rw [List.getElem?_range hk])⟩ fun i m o hm => by cases hm
  rw [h0, h1] at this
  exact this

/-! ### Code -/
def Wp (P : Program) (c : Code) (l : List Value) (H : Heap) (Q : Out) (_k1 : Keep c := ⟨⟩) (_k2 : Keep Q := ⟨⟩) : Prop := ∃ e l' H', Sim P c l H e l' H' ∧ Q e l' H'

theorem Wp.mono {c : Code} {l : List Value} {Q Q' : Out} (h : Wp P c l H Q) (hh : ∀ e l H, Q e l H → Q' e l H) : Wp P c l H Q' := by
  obtain ⟨e, l', H', h1, h2⟩ := h
  exact ⟨e, l', H', h1, hh _ _ _ h2⟩

def seqQ (P : Program) (b : Code) (Q : Out) : Out
  | .normal, l, H => Wp P b l H Q
  | e, l, H => Q e l H

def blockQ (id : Nat) (Q : Out) : Out := fun e l H => Q (e.out id) l H

theorem Wp.skip {l : List Value} {Q : Out} (h : Q .normal l H) : Wp P .skip l H Q := ⟨_, _, _, .skip l H, h⟩
theorem Wp.label {t : Nat} {l : List Value} {Q : Out} (h : Q .normal l H) : Wp P (.label t) l H Q := ⟨_, _, _, .label t l H, h⟩
theorem Wp.exit {id : Nat} {l : List Value} {Q : Out} (h : Q (.exit id) l H) : Wp P (.exit id) l H Q := ⟨_, _, _, .exit id l H, h⟩
theorem Wp.ret {l : List Value} {Q : Out} (h : Q .ret l H) : Wp P .ret l H Q := ⟨_, _, _, .ret l H, h⟩

theorem Wp.seq {a b : Code} {l : List Value} {Q : Out} (h : Wp P a l H (seqQ P b Q)) : Wp P (.seq a b) l H Q := by
  obtain ⟨e, l1, H1, h1, h2⟩ := h
  cases e with
  | normal =>
    obtain ⟨e, l2, H2, h3, h4⟩ := h2
    exact ⟨e, l2, H2, .seq h1 h3, h4⟩
  | exit i => exact ⟨_, _, _, .seq' h1 (by simp), h2⟩
  | ret => exact ⟨_, _, _, .seq' h1 (by simp), h2⟩

theorem Wp.cond {c : Operand} {x y : Code} {l : List Value} {Q : Out} (t : Bool) (hc : ev l c = .bool t) (hok : operandOk c = true) (h : Wp P (if t then x else y) l H Q) : Wp P (.cond c x y) l H Q := by
  obtain ⟨e, l2, H2, h3, h4⟩ := h
  exact ⟨e, l2, H2, .cond hc hok h3, h4⟩

/-- Either way of a condition. -/
theorem Wp.ite {c : Operand} {x y : Code} {l : List Value} {Q : Out} (p : Prop) [Decidable p] (hc : ev l c = .bool (decide p)) (hok : operandOk c = true) (hx : p → Wp P x l H Q) (hy : ¬ p → Wp P y l H Q) : Wp P (.cond c x y) l H Q := by
  refine Wp.cond (decide p) hc hok ?_
  by_cases h : p
  · have e : (if decide p = true then x else y) = x := by simp [h]
    rw [e]; exact hx h
  · have e : (if decide p = true then x else y) = y := by simp [h]
    rw [e]; exact hy h

theorem Wp.block {id : Nat} {b : Code} {l : List Value} {Q : Out} (h : Wp P b l H (blockQ id Q)) : Wp P (.block id b) l H Q := by
  obtain ⟨e, l2, H2, h3, h4⟩ := h
  exact ⟨_, l2, H2, .block h3, h4⟩

/-- A loop, by an invariant and a number that falls. -/
theorem Wp.loop {c : Code} {Q : Out} (I : Nat → List Value → Heap → Prop) (step : ∀ n l H, I n l H → Wp P c l H fun e l1 H1 => match e with | .normal => ∃ m, m < n ∧ I m l1 H1 | e => Q e l1 H1) {l : List Value} (n : Nat) (h : I n l H) : Wp P (.loop c) l H Q := by
  have key : ∀ (n : Nat) (l : List Value) (H : Heap), I n l H → ∃ k e l' H', Rounds P c k l H e l' H' ∧ Q e l' H' := by
    intro n
    induction n using Nat.strongRecOn with
    | _ n ih =>
      intro l H h
      obtain ⟨e, l1, H1, h1, h2⟩ := step n l H h
      cases e with
      | normal =>
        obtain ⟨m, hm, h3⟩ := h2
        obtain ⟨k, e, l', H', h4, h5⟩ := ih m hm l1 H1 h3
        exact ⟨k + 1, e, l', H', .more h1 h4, h5⟩
      | exit i => exact ⟨1, _, _, _, .last h1 (by simp), h2⟩
      | ret => exact ⟨1, _, _, _, .last h1 (by simp), h2⟩
  obtain ⟨k, e, l', H', h1, h2⟩ := key n l H h
  exact ⟨e, l', H', .loop h1, h2⟩

theorem Wp.region {id : Nat} {ops : Array Oper} {l : List Value} {Q : Out} (h : opsW P ops ops.toList l H fun l H => Q .normal l H) : Wp P (.region id ops false) l H Q := by
  obtain ⟨l', H', h1, h2⟩ := opsR_of_W h
  exact ⟨_, _, _, .region h1, h2⟩

theorem Wp.draw (hmix : P.follows .mixedOrders = true) {id : Nat} {ops : Array Oper} {l : List Value} {Q : Out} (htab : drawTab ops = some []) (h : opsW P ops ops.toList l H fun l H => Q .normal l H) : Wp P (.region id ops true) l H Q := by
  obtain ⟨l', H', h1, h2⟩ := opsR_of_W h
  exact ⟨_, _, _, .draw0 hmix htab h1, h2⟩

/-- A function, out of its body. -/
theorem CallOk.of_wp {f : FuncId} {fn : Func} {c : Code} {args : List Value} (hf : P.funcs[f]? = some fn) (hb : fn.body = some c) (hn : (fn.name == "runtime.NumGoroutine") = false) {Q : Value → Heap → Prop}
    (h : Wp P c (args ++ List.replicate (fn.ntmps - args.length) undef) H fun e l H1 => (e = .normal ∨ e = .ret) ∧ ∃ v, resultsD P fn l H1 = some v ∧ Q v H1) : ∃ v H', CallOk P f args H v H' ∧ Q v H' := by
  obtain ⟨e, l', H', h1, h2, v, h3, h4⟩ := h
  exact ⟨v, H', .of_sim hf hb hn h1 h2 h3, h4⟩

/-! ### Slots -/
theorem get_put (l : List Value) (d : Option Tmp) (v : Value) (t : Tmp) : get (put l d v) t = if d = some t ∧ t < l.length then v else get l t := ev_put l d v t

theorem get_put_same {l : List Value} {d : Tmp} {v : Value} (h : d < l.length) : get (put l (some d) v) d = v := by rw [get_put, if_pos ⟨rfl, h⟩]
theorem get_put_ne {l : List Value} {d t : Tmp} {v : Value} (h : d ≠ t) : get (put l (some d) v) t = get l t := by rw [get_put, if_neg (fun hh => h (Option.some.inj hh.1))]
theorem put_none (l : List Value) (v : Value) : put l none v = l := rfl
end
end Go.Ds
