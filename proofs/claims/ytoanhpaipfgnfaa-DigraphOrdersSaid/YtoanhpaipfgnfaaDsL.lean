/-
  Ds against the model: operations that call, lists of operations, code (regions that draw apart).
-/
import Derived.Test.YtoanhpaipfgnfaaDsK
set_option linter.unusedVariables false
set_option linter.unusedSimpArgs false
namespace Go.Ds
section
variable {P : Program} {ρ : Rho} {H : Heap} {w : World}

theorem V.of_bool {v : Value} {b : Bool} (h : V ρ v (.bool b)) : v = .bool b := by
  cases h with
  | v1 h1 => cases h1 with
    | c1 h1 => cases h1 with
      | c0 h1 => cases h1 with
        | flat h1 => rfl

theorem yielded_ok {l : List Value} {tm : Array Value} (hE : All2 (V ρ) l tm.toList) (ops : Array Oper) (j : Nat) : yielded ops tm j = yieldedD ops l j := by
  unfold yielded yieldedD
  cases hd : (ops[j]?).bind (·.dst) with
  | none => rfl
  | some d =>
    simp only [Option.bind_some]
    cases hl : l[d]? with
    | none =>
      have : tm[d]? = none := by
        have h1 := List.getElem?_eq_none_iff.1 hl
        rw [hE.length] at h1
        rw [Array.getElem?_eq_none_iff]; simpa using h1
      rw [this]
    | some v =>
      obtain ⟨v', hv', hr⟩ := hE.get d v hl
      have : tm[d]? = some v' := by simpa using hv'
      rw [this]
      cases v' with
      | bool b => rw [hr.of_bool]
      | _ =>
        cases v with
        | bool b => have := hr.bool_inv; cases this
        | _ => rfl

theorem wanted_ok {l : List Value} {tm : Array Value} (hE : All2 (V ρ) l tm.toList) (ops : Array Oper) (o : Oper) : Region.wanted o (yielded ops tm) = Region.wanted o (yieldedD ops l) := by
  unfold Region.wanted
  cases o.guard with
  | none => rfl
  | some g => simp only [yielded_ok hE]

theorem V.yield_inv {L : Nat} {b c : Array Value} {v' : Value} (h : V ρ (.func (.yield L) b c) v') : ∃ p, ρ L 0 = some p ∧ v' = .func (.yield p.b) #[] #[] := by
  cases h with
  | v1 h1 => cases h1 with
    | c1 h1 => cases h1 with
      | c0 h1 => cases h1 with
        | flat h1 => simp [scalar] at h1
      | yld hp => exact ⟨_, hp, rfl⟩

theorem All2.v_of_c0 {a b : List Value} (h : All2 (C0 ρ) a b) : All2 (V ρ) a b := h.mono fun _ _ h => .v1 (.c1 (.c0 h))

/-- The functions of a program that have a body are entered. -/
theorem run_callFunc {f : FuncId} {fn : Func} (hf : P.funcs[f]? = some fn) (hb : fn.body.isNone = false) (hn : (fn.name == "runtime.NumGoroutine") = false) (args : Array Value) (w : World) : (callFunc f args).run P w = .ok (.enter f args) w := by
  unfold callFunc
  simp only [Sem.run_bind, run_program, Result.andThen_ok, hf, hn, hb]
  simp

theorem callF_fn {ex : Run} {f : FuncId} {args : List Value} {r : Value × Heap} (hc : callF P ex f args H = some r) : ∃ fn, P.funcs[f]? = some fn ∧ fn.body.isNone = false ∧ (fn.name == "runtime.NumGoroutine") = false := by
  unfold callF at hc
  split at hc
  · rename_i fn hf
    split at hc
    · rename_i c hb
      split at hc
      · cases hc
      · rename_i hn
        exact ⟨fn, hf, by rw [hb]; rfl, by simpa using hn⟩
    · cases hc
  · cases hc

/-- What a round of a loop gives, by Ds. -/
def RoundOk (P : Program) (L : Nat) (args : List Value) (H : Heap) (v : Value) (H' : Heap) : Prop :=
  ∀ (ρ : Rho) (w : World) (p : Place) (args' : Array Value) (k : Nat), HRel P ρ H w → ρ L 0 = some p → All2 (V ρ) args args'.toList →
    ∃ r', w.heap[p.b]? = some (.loop r') ∧ args'.size = r'.params.size ∧
      RoundIn (fe none) k P p.b r'.fn ((r'.params.zip args').foldl (fun tmps (t, a) => tmps.setIfInBounds t a) r'.tmps) r'.assign r'.body w
        fun e w' => ∃ ρ' v', e = .returned v' ∧ Post P ρ H w ρ' H' w' ∧ V ρ' v v'

/-- A function that is entered. -/
def Entered (P : Program) (f : FuncId) : Prop := ∃ fn, P.funcs[f]? = some fn ∧ fn.body.isNone = false ∧ (fn.name == "runtime.NumGoroutine") = false

/-- An operation runs as Ds says. -/
inductive StepR (P : Program) (o : Oper) (l : List Value) (H : Heap) (v : Value) (H' : Heap) : Prop where
  | op (hok : o.op.operands.toList.all operandOk = true) (hd : opD P o l H = some (v, H'))
  | call (hok : o.op.operands.toList.all operandOk = true) (c : Call) (f : Operand) (k : FuncId) (first captured : Array Value) (hc : o.op = .call c) (hf : c.callee = .value f) (hev : ev l f = .func (.func k) first captured)
      (he : Entered P k) (hcall : CallOk P k (first.toList ++ c.args.toList.map (ev l) ++ captured.toList) H v H')
  | round (hok : o.op.operands.toList.all operandOk = true) (c : Call) (f : Operand) (L : Nat) (b d : Array Value) (hc : o.op = .call c) (hf : c.callee = .value f) (hev : ev l f = .func (.yield L) b d)
      (hround : RoundOk P L (c.args.toList.map (ev l)) H v H')

theorem stepR_of {ex : Run} (hex : ∀ c l H e l' H', ex c l H = some (e, l', H') → Sim P c l H e l' H') {o : Oper} {l : List Value} {v : Value} {H' : Heap} (hs : stepD P ex o l H = some (v, H')) : StepR P o l H v H' := by
  unfold stepD at hs
  by_cases hok : o.op.operands.toList.all operandOk = true
  case neg => rw [if_neg hok] at hs; cases hs
  rw [if_pos hok] at hs
  split at hs
  · rename_i c hc
    split at hs
    · rename_i f hf
      unfold callV at hs
      split at hs
      · rename_i fk first captured hev
        exact .call hok c f fk first captured hc hf hev (callF_fn hs) (callF_ok hex hs)
      · rename_i L b d hev
        exact .round hok c f L b d hc hf hev fun ρ w p args' k hr hp ha => round_ok hex hs hr hp ha k
      · cases hs
    · exact .op hok hs
  · exact .op hok hs

theorem StepR.ok {o : Oper} {l : List Value} {v : Value} {H' : Heap} (h : StepR P o l H v H') : o.op.operands.toList.all operandOk = true := by
  cases h <;> assumption

/-- An operation that is no effect. -/
theorem StepR.opD {o : Oper} {l : List Value} {v : Value} {H' : Heap} (h : StepR P o l H v H') (hn : ∀ c f, o.op = .call c → c.callee ≠ .value f) : opD P o l H = some (v, H') := by
  cases h with
  | op _ hd => exact hd
  | call _ c f k first captured hc hf => exact absurd hf (hn c f hc)
  | round _ c f L b d hc hf => exact absurd hf (hn c f hc)

/-- **An operation.** -/
theorem StepR.sound {o : Oper} {l : List Value} {v : Value} {H' : Heap} (hs : StepR P o l H v H') {a : Act} (hr : HRel P ρ H w)
    (hV : ∀ x, x ∈ o.op.operands → operandOk x = true → V ρ (ev l x) (a.eval x)) (ro : Option Nat) (k : Nat) {next : Act → World → Prop} {Q : Exit → Act → World → Prop} (hn : ∀ ρ' v' w', Post P ρ H w ρ' H' w' → V ρ' v v' → next (a.put o.dst v') w') :
    o.wpIn (fe ro) k P a w next Q := by
  refine ⟨fun _ _ => trivial, ?_⟩
  have hok := hs.ok
  have hok' : ∀ x, x ∈ o.op.operands → operandOk x = true := fun x hx => by
    simp only [List.all_eq_true] at hok; exact hok x (by simpa using hx)
  have hV' : ∀ x, x ∈ o.op.operands → V ρ (ev l x) (a.eval x) := fun x hx => hV x hx (hok' x hx)
  have exec : ∀ {c : Call} {f : Operand}, o.op = .call c → c.callee = .value f → (∀ d, o.op ≠ .defer d) ∧ o.op.operands = #[f] ++ c.args ∧ execOp a.eval o = (do let d ← resolve a.eval c o.type; invoke d.target d.args) := by
    intro c f hc hf
    refine ⟨fun c' hc' => (by rw [hc] at hc'; cases hc'), by rw [hc]; simp [Op.operands, Call.operands, hf], ?_⟩
    obtain ⟨dst, op, type, pos, after, guard⟩ := o
    simp only at hc
    subst hc
    rfl
  cases hs with
  | op _ hd =>
    have hdef : ∀ c, o.op ≠ .defer c := fun c hc => by simp only [Go.Ds.opD, hc] at hd; cases hd
    rw [Oper.semAt_eq _ _ _ hdef]
    obtain ⟨ρ', v', nx, w', hrun, hnx, hp, hv⟩ := opD_ok hr hV' hd
    rw [hrun]
    rcases hnx with rfl | ⟨rfl, rfl⟩
    · exact hn ρ' v' w' hp hv
    · exact hn ρ' undef w' hp hv
  | call _ c f fk first captured hc hf hev he hcall =>
    obtain ⟨hdef, hops, hexec⟩ := exec hc hf
    rw [Oper.semAt_eq _ _ _ hdef]
    have hfv := hV' f (by rw [hops]; simp)
    have hav := args_ok c.args.toList fun x hx => hV' x (by rw [hops]; simp; exact .inr (by simpa using hx))
    rw [hexec]
    rw [hev] at hfv
    obtain ⟨first', captured', hfe, hfa, hfc⟩ := hfv.fn_inv
    obtain ⟨fn, hfn, hbody, hname⟩ := he
    have hrun : (do let d ← resolve a.eval c o.type; invoke d.target d.args : Sem Next).run P w = .ok (.enter fk (first' ++ c.args.map a.eval ++ captured')) w := by
      simp only [resolve, hf, hfe, Deferred.ofValue, Sem.run_bind, Sem.run_pure, Result.andThen_ok, invoke]
      exact run_callFunc hfn hbody hname _ w
    rw [hrun]
    refine ⟨fe_depth ro, ?_⟩
    have hargs : All2 (V ρ) (first.toList ++ c.args.toList.map (ev l) ++ captured.toList) (first' ++ c.args.map a.eval ++ captured').toList := by
      simp only [Array.toList_append, Array.toList_map]
      exact ((hfa.v_of_c0).append hav).append hfc.v_of_c0
    have hci : CallsIn (fe ro) (k - 1) P fk (first' ++ c.args.map a.eval ++ captured') w fun e w' => ∃ ρ' v', e = .returned v' ∧ Post P ρ H w ρ' H' w' ∧ V ρ' v v' := hcall (k - 1) ρ w _ hr hargs
    refine hci.mono ?_
    rintro e w' ⟨ρ', v', rfl, hp, hv⟩
    exact hn ρ' v' w' hp hv
  | round _ c f L b d hc hf hev hround =>
    obtain ⟨hdef, hops, hexec⟩ := exec hc hf
    rw [Oper.semAt_eq _ _ _ hdef]
    have hfv := hV' f (by rw [hops]; simp)
    have hav := args_ok c.args.toList fun x hx => hV' x (by rw [hops]; simp; exact .inr (by simpa using hx))
    rw [hexec]
    rw [hev] at hfv
    obtain ⟨p, hp, hfe⟩ := hfv.yield_inv
    have hargs : All2 (V ρ) (c.args.toList.map (ev l)) (c.args.map a.eval).toList := by
      simpa using hav
    obtain ⟨r', hw, hsz, hround⟩ := hround ρ w p _ (k - 1) hr hp hargs
    have hrun : (do let d ← resolve a.eval c o.type; invoke d.target d.args : Sem Next).run P w = .ok (.round p.b r'.fn ((r'.params.zip (c.args.map a.eval)).foldl (fun tmps (t, a) => tmps.setIfInBounds t a) r'.tmps) r'.assign r'.body) w := by
      simp only [resolve, hf, hfe, Deferred.ofValue, Sem.run_bind, Sem.run_pure, Result.andThen_ok, invoke]
      simp only [Array.empty_append]
      exact run_yield hw hsz
    rw [hrun]
    refine ⟨fe_depth ro, ?_⟩
    have hri : RoundIn (fe ro) (k - 1) P p.b r'.fn ((r'.params.zip (c.args.map a.eval)).foldl (fun tmps (t, a) => tmps.setIfInBounds t a) r'.tmps) r'.assign r'.body w
      fun e w' => ∃ ρ' v', e = .returned v' ∧ Post P ρ H w ρ' H' w' ∧ V ρ' v v' := hround
    refine hri.mono ?_
    rintro e w' ⟨ρ', v', rfl, hp, hv⟩
    exact hn ρ' v' w' hp hv

theorem step_ok {ex : Run} (hex : ∀ c l H e l' H', ex c l H = some (e, l', H') → Sim P c l H e l' H') {o : Oper} {l : List Value} {v : Value} {H' : Heap} (hs : stepD P ex o l H = some (v, H')) {a : Act} (hr : HRel P ρ H w)
    (hV : ∀ x, x ∈ o.op.operands → operandOk x = true → V ρ (ev l x) (a.eval x)) (ro : Option Nat) (k : Nat) {next : Act → World → Prop} {Q : Exit → Act → World → Prop} (hn : ∀ ρ' v' w', Post P ρ H w ρ' H' w' → V ρ' v v' → next (a.put o.dst v') w') :
    o.wpIn (fe ro) k P a w next Q := (stepR_of hex hs).sound hr hV ro k hn

/-- What operations leave, by Ds. -/
def OpsOk (P : Program) (ρ : Rho) (H : Heap) (w : World) (ds : List Deferred) (l' : List Value) (H' : Heap) (a' : Act) (w' : World) : Prop :=
  ∃ ρ', Post P ρ H w ρ' H' w' ∧ All2 (V ρ') l' a'.tmps.toList ∧ a'.defers = ds

theorem put_defers (a : Act) (d : Option Tmp) (v : Value) : (a.put d v).defers = a.defers := by cases d <;> rfl

/-- Operations one after the other run as Ds says. -/
inductive OpsR (P : Program) (ops : Array Oper) : List Nat → List Value → Heap → List Value → Heap → Prop where
  | nil (l : List Value) (H : Heap) : OpsR P ops [] l H l H
  | step {i : Nat} {is : List Nat} {o : Oper} {l : List Value} {H : Heap} {v : Value} {H1 : Heap} {l' : List Value} {H' : Heap} (ho : ops[i]? = some o) (hw : Region.wanted o (yieldedD ops l) = true) (hs : StepR P o l H v H1)
      (rest : OpsR P ops is (put l o.dst v) H1 l' H') : OpsR P ops (i :: is) l H l' H'
  | past {i : Nat} {is : List Nat} {o : Oper} {l : List Value} {H : Heap} {l' : List Value} {H' : Heap} (ho : ops[i]? = some o) (hw : Region.wanted o (yieldedD ops l) = false)
      (rest : OpsR P ops is (put l o.dst undef) H l' H') : OpsR P ops (i :: is) l H l' H'

theorem opsR_of {ex : Run} (hex : ∀ c l H e l' H', ex c l H = some (e, l', H') → Sim P c l H e l' H') {ops : Array Oper} : ∀ (is : List Nat) (l : List Value) (H : Heap) (l' : List Value) (H' : Heap), opsD P ex ops is l H = some (l', H') → OpsR P ops is l H l' H'
  | [], l, H, l', H', ho => by
    simp only [opsD, Option.some.injEq, Prod.mk.injEq] at ho
    obtain ⟨rfl, rfl⟩ := ho
    exact .nil l H
  | i :: is, l, H, l', H', ho => by
    unfold opsD at ho
    split at ho
    · cases ho
    · rename_i o hio
      split at ho
      · rename_i hw
        split at ho
        · rename_i v H1 hst
          simp only [force_eq, forceS_eq, forceH_eq] at ho
          exact .step hio hw (stepR_of hex hst) (opsR_of hex is _ _ _ _ ho)
        · cases ho
      · rename_i hw
        simp only [forceS_eq, forceH_eq] at ho
        exact .past hio (by simpa using hw) (opsR_of hex is _ _ _ _ ho)

theorem OpsR.sound {ops : Array Oper} (ro : Option Nat) (k : Nat) {Q : Exit → Act → World → Prop} {is : List Nat} {l : List Value} {H : Heap} {l' : List Value} {H' : Heap} (h : OpsR P ops is l H l' H') :
    ∀ (ρ : Rho) (w : World) (a : Act), HRel P ρ H w → All2 (V ρ) l a.tmps.toList → (∀ a' w', OpsOk P ρ H w a.defers l' H' a' w' → Q .normal a' w') → wpOpsIn (fe ro) k P ops Q is a w := by
  induction h with
  | nil l H => intro ρ w a hr hE hQ; exact hQ a w ⟨ρ, .refl hr, hE, rfl⟩
  | step ho hw hs rest ih =>
    intro ρ w a hr hE hQ
    unfold wpOpsIn
    rw [ho]
    simp only [wanted_ok hE]
    rw [if_pos hw]
    refine hs.sound hr (fun x _ hx => ev_ok hE hx) ro k fun ρ1 v1 w1 hp1 hv1 => ?_
    refine ih ρ1 w1 _ hp1.rel (put_ok (hE.mono fun _ _ h => h.mono hp1.le) hv1 _) ?_
    rintro a' w' ⟨ρ', hp', hE', hd'⟩
    exact hQ a' w' ⟨ρ', hp1.trans hp', hE', by rw [hd', put_defers]⟩
  | past ho hw rest ih =>
    intro ρ w a hr hE hQ
    unfold wpOpsIn
    rw [ho]
    simp only [wanted_ok hE]
    rw [if_neg (by simp [hw])]
    refine ⟨fun _ _ => trivial, ?_⟩
    refine ih ρ w _ hr (put_ok hE .undef _) ?_
    rintro a' w' ⟨ρ', hp', hE', hd'⟩
    exact hQ a' w' ⟨ρ', hp', hE', by rw [hd', put_defers]⟩

theorem ops_ok {ex : Run} (hex : ∀ c l H e l' H', ex c l H = some (e, l', H') → Sim P c l H e l' H') {ops : Array Oper} (ro : Option Nat) (k : Nat) {Q : Exit → Act → World → Prop} :
    ∀ (is : List Nat) (l : List Value) (H : Heap) (l' : List Value) (H' : Heap), opsD P ex ops is l H = some (l', H') → ∀ (ρ : Rho) (w : World) (a : Act), HRel P ρ H w → All2 (V ρ) l a.tmps.toList →
      (∀ a' w', OpsOk P ρ H w a.defers l' H' a' w' → Q .normal a' w') → wpOpsIn (fe ro) k P ops Q is a w :=
  fun is l H l' H' ho => (opsR_of hex is l H l' H' ho).sound ro k

theorem QD.then_ {c : Code} {l : List Value} {l1 : List Value} {H1 : Heap} {ro : Option Nat} {k B : Nat} {e2 : Ex} {l2 : List Value} {H2 : Heap} {d : Code} {a : Act}
    (h1 : Sim P c l H .normal l1 H1) (h2 : Sim P d l1 H1 e2 l2 H2) (hr : HRel P ρ H w) (hE : All2 (V ρ) l a.tmps.toList) (hl : LoopAt ro w) (hM : Marks B w a.defers) (hB : B ≤ w.heap.size) :
    c.wpIn (fe ro) k P (Exit.then (d.wpIn (fe ro) k P (QD P ρ H w B e2 l2 H2)) (QD P ρ H w B e2 l2 H2)) a w := by
  refine wpIn_mono (h1 ro k B ρ w a hr hE hl hM hB) ?_
  rintro e' a' w' ⟨he, ρ', hp, hE', hM'⟩
  subst he
  refine wpIn_mono (h2 ro k B ρ' w' a' hp.rel hE' (hl.post hp) hM' (Nat.le_trans hB hp.size)) ?_
  intro e3 a3 w3 hq
  exact hq.trans hp
end
end Go.Ds
