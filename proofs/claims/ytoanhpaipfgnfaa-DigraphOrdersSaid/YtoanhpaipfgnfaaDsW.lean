/-
  Ds: the symbolic run of regions, and the steps of code.
-/
import Derived.Test.YtoanhpaipfgnfaaDsV
set_option linter.unusedVariables false
set_option linter.unusedSimpArgs false
namespace Go.Ds
noncomputable section
variable {P : Program} {H : Heap}

theorem callW_congr {f f' : Value} {args args' : List Value} {K : Value → Heap → Prop} (h1 : f = f') (h2 : args = args') : callW P f args H K = callW P f' args' H K := by rw [h1, h2]
attribute [congr] callW_congr

/-- The call of a function of the program. -/
def callFW (P : Program) (k : FuncId) (args : List Value) (H : Heap) (K : Value → Heap → Prop) (_k : Keep K := ⟨⟩) : Prop := ∃ v H1, Entered P k ∧ CallOk P k args H v H1 ∧ K v H1
theorem callFW_congr {k : FuncId} {args args' : List Value} {K : Value → Heap → Prop} (h2 : args = args') : callFW P k args H K = callFW P k args' H K := by rw [h2]
attribute [congr] callFW_congr
theorem callW_func (k : FuncId) (a b : List Value) (args : List Value) (K : Value → Heap → Prop) : callW P (.func (.func k) a.toArray b.toArray) args H K = callFW P k (a ++ args ++ b) H K := rfl

theorem opW_call (d ty pos af g) (f : Operand) (args : List Operand) (ts : Array TypeId) (l : List Value) (K : Value → Heap → Prop) :
    opW P ⟨d, .call { callee := .value f, args := args.toArray, argTypes := ts }, ty, pos, af, g⟩ l H K = opdW f l fun f => opdsW args l fun vs => callW P f vs H K := by
  simp only [opW, opdsW_eq, opdW, Op.operands, Call.operands]
  simp [and_assoc]

theorem opW_makeFunc (d ty pos af g) (f : FuncId) (captured : List Operand) (l : List Value) (K : Value → Heap → Prop) :
    opW P ⟨d, .makeFunc (.func f) #[] captured.toArray, ty, pos, af, g⟩ l H K = opdsW captured l fun vs => andW (vs.all isC0) (K (.func (.func f) #[] vs.toArray) H) := by
  simp only [opW, opdsW_eq, andW, Op.operands, opD]
  have e : (captured.map (ev l)).all isC0 = captured.all fun x => isC0 (ev l x) := by simp [List.all_map, Function.comp_def]
  rw [e]
  by_cases h : (captured.all fun x => isC0 (ev l x)) = true
  · simp [h]
  · simp [h, bindW]

/-! ### Regions -/
def dstAt (ops : Array Oper) (j : Nat) : Option Tmp := (ops[j]?).bind (·.dst)

def letG (v : Value) (b : Bool) (p q : Prop) (_k1 : Keep p := ⟨⟩) (_k2 : Keep q := ⟨⟩) : Prop := match v with | .bool c => if c = b then p else q | _ => q
theorem letG_congr {v v' : Value} {b : Bool} {p q : Prop} (h : v = v') : letG v b p q = letG v' b p q := by rw [h]
attribute [congr] letG_congr
theorem letG_tt (p q : Prop) : letG (.bool true) true p q = p := rfl
theorem letG_ff (p q : Prop) : letG (.bool false) false p q = p := rfl
theorem letG_tf (p q : Prop) : letG (.bool true) false p q = q := rfl
theorem letG_ft (p q : Prop) : letG (.bool false) true p q = q := rfl

theorem letG_undef (b : Bool) (p q : Prop) : letG undef b p q = q := rfl
theorem letG_split {c : Prop} [Decidable c] {p q : Prop} (h1 : c → p) (h2 : ¬ c → q) : letG (.bool (decide c)) true p q := by
  by_cases h : c
  · simp only [letG, h, decide_true, if_true]; exact h1 h
  · simp only [letG, h, decide_false, Bool.false_eq_true, if_false]; exact h2 h
theorem letG_split' {c : Prop} [Decidable c] {p q : Prop} (h1 : c → q) (h2 : ¬ c → p) : letG (.bool (decide c)) false p q := by
  by_cases h : c
  · simp only [letG, h, decide_true, Bool.true_eq_false, if_false]; exact h1 h
  · simp only [letG, h, decide_false, if_true]; exact h2 h

def guardW (d : Option Tmp) (l : List Value) (b : Bool) (p q : Prop) (_k1 : Keep p := ⟨⟩) (_k2 : Keep q := ⟨⟩) : Prop := match d with | some d => letG (get l d) b p q | none => q
theorem guardW_congr {d d' : Option Tmp} {l : List Value} {b : Bool} {p q : Prop} (h : d = d') : guardW d l b p q = guardW d' l b p q := by rw [h]
attribute [congr] guardW_congr
theorem guardW_some (d : Tmp) (l : List Value) (b : Bool) (p q : Prop) : guardW (some d) l b p q = letG (get l d) b p q := rfl

theorem wanted_eq (ops : Array Oper) (l : List Value) (d op ty pos af) (j : Nat) (b : Bool) :
    Region.wanted ⟨d, op, ty, pos, af, some (j, b)⟩ (yieldedD ops l) = (match dstAt ops j with | some d => (match get l d with | .bool c => c == b | _ => false) | none => false) := by
  show (yieldedD ops l j == some b) = _
  unfold yieldedD dstAt
  cases (ops[j]?).bind (·.dst) with
  | none => rfl
  | some t =>
    simp only [get_eq]
    rw [List.getD_eq_getElem?_getD]
    cases h : l[t]? with
    | none => rfl
    | some v =>
      simp only [Option.getD_some]
      cases v <;> rfl

theorem wanted_guard (ops : Array Oper) (l : List Value) (d op ty pos af) (j : Nat) (b : Bool) (p q : Prop) :
    (if Region.wanted ⟨d, op, ty, pos, af, some (j, b)⟩ (yieldedD ops l) = true then p else q) = guardW (dstAt ops j) l b p q := by
  rw [wanted_eq]
  cases dstAt ops j with
  | none => simp [guardW]
  | some t =>
    have key : ∀ v : Value, (if (match v with | .bool c => c == b | _ => false) = true then p else q) = letG v b p q := fun v => by
      cases v <;> simp [letG]
    exact key (get l t)

theorem opsW_nil (ops : Array Oper) (l : List Value) (K : List Value → Heap → Prop) : opsW P ops [] l H K = K l H := rfl
theorem opsW_cons (ops : Array Oper) (d op ty pos af) (os : List Oper) (l : List Value) (K : List Value → Heap → Prop) :
    opsW P ops (⟨d, op, ty, pos, af, none⟩ :: os) l H K = opW P ⟨d, op, ty, pos, af, none⟩ l H fun v H1 => opsW P ops os (put l d v) H1 K := by
  rw [opsW]; simp [Region.wanted]
theorem opsW_guard (ops : Array Oper) (d op ty pos af) (j : Nat) (b : Bool) (os : List Oper) (l : List Value) (K : List Value → Heap → Prop) :
    opsW P ops (⟨d, op, ty, pos, af, some (j, b)⟩ :: os) l H K = guardW (dstAt ops j) l b (opW P ⟨d, op, ty, pos, af, some (j, b)⟩ l H fun v H1 => opsW P ops os (put l d v) H1 K) (opsW P ops os (put l d undef) H K) := by
  rw [opsW, ← wanted_guard ops l d op ty pos af]

/-- The same with a trace. -/
def opsTW (P : Program) (ops : Array Oper) : List Oper → List (List Value × Heap × Value) → List Value → Heap → (List (List Value × Heap × Value) → List Value → Heap → Prop) → Prop
  | [], tr, l, H, K => K tr l H
  | o :: os, tr, l, H, K => if Region.wanted o (yieldedD ops l) = true then opW P o l H fun v H1 => opsTW P ops os (tr ++ [(l, H, v)]) (put l o.dst v) H1 K else opsTW P ops os (tr ++ [(l, H, undef)]) (put l o.dst undef) H K

theorem opsTW_nil (ops : Array Oper) (tr) (l : List Value) (K) : opsTW P ops [] tr l H K = K tr l H := rfl
theorem opsTW_cons (ops : Array Oper) (d op ty pos af) (os : List Oper) (tr) (l : List Value) (K) :
    opsTW P ops (⟨d, op, ty, pos, af, none⟩ :: os) tr l H K = opW P ⟨d, op, ty, pos, af, none⟩ l H fun v H1 => opsTW P ops os (tr ++ [(l, H, v)]) (put l d v) H1 K := by
  rw [opsTW]; simp [Region.wanted]
theorem opsTW_guard (ops : Array Oper) (d op ty pos af) (j : Nat) (b : Bool) (os : List Oper) (tr) (l : List Value) (K) :
    opsTW P ops (⟨d, op, ty, pos, af, some (j, b)⟩ :: os) tr l H K = guardW (dstAt ops j) l b (opW P ⟨d, op, ty, pos, af, some (j, b)⟩ l H fun v H1 => opsTW P ops os (tr ++ [(l, H, v)]) (put l d v) H1 K) (opsTW P ops os (tr ++ [(l, H, undef)]) (put l d undef) H K) := by
  rw [opsTW, ← wanted_guard ops l d op ty pos af]

theorem opsTW_sound {ops : Array Oper} {K : List (List Value × Heap × Value) → List Value → Heap → Prop} : ∀ (os : List Oper) (i : Nat), ops.toList.drop i = os → ∀ (tr : List (List Value × Heap × Value)) (l : List Value) (H : Heap), opsTW P ops os tr l H K →
    ∃ (T : Nat → List Value × Heap) (val : Nat → Value) (l' : List Value) (H' : Heap) (ext : List (List Value × Heap × Value)), T 0 = (l, H) ∧ T os.length = (l', H') ∧ ext.length = os.length ∧ (∀ k, k < os.length → ext[k]? = some ((T k).1, (T k).2, val k)) ∧
      (∀ k, k < os.length → StepT P ops (i + k) (T k) (T (k + 1)) (val k)) ∧ K (tr ++ ext) l' H'
  | [], i, _, tr, l, H, h => ⟨fun _ => (l, H), fun _ => undef, l, H, [], rfl, rfl, rfl, by simp, by simp, by simpa [opsTW] using h⟩
  | o :: os, i, hd, tr, l, H, h => by
    have ho : ops[i]? = some o := by
      have : (ops.toList.drop i)[0]? = some o := by rw [hd]; rfl
      rw [List.getElem?_drop] at this
      simpa using this
    have hd' : ops.toList.drop (i + 1) = os := by
      rw [← List.drop_drop, hd]; rfl
    have key : ∀ (v : Value) (H1 : Heap), StepT P ops i (l, H) (put l o.dst v, H1) v → opsTW P ops os (tr ++ [(l, H, v)]) (put l o.dst v) H1 K →
        ∃ (T : Nat → List Value × Heap) (val : Nat → Value) (l' : List Value) (H' : Heap) (ext : List (List Value × Heap × Value)), T 0 = (l, H) ∧ T (o :: os).length = (l', H') ∧ ext.length = (o :: os).length ∧ (∀ k, k < (o :: os).length → ext[k]? = some ((T k).1, (T k).2, val k)) ∧
          (∀ k, k < (o :: os).length → StepT P ops (i + k) (T k) (T (k + 1)) (val k)) ∧ K (tr ++ ext) l' H' := by
      intro v H1 hst hop
      obtain ⟨T, val, l', H', ext, h0, h1, h2, h3, h4, h5⟩ := opsTW_sound os (i + 1) hd' _ _ _ hop
      refine ⟨fun k => match k with | 0 => (l, H) | k + 1 => T k, fun k => match k with | 0 => v | k + 1 => val k, l', H', (l, H, v) :: ext, rfl, h1, by simp [h2], ?_, ?_, by simpa using h5⟩
      · intro k hk
        cases k with
        | zero => rfl
        | succ k => simpa using h3 k (by simpa using hk)
      · intro k hk
        cases k with
        | zero => simp only [h0]; exact hst
        | succ k =>
          have := h4 k (by simpa using hk)
          rw [show i + (k + 1) = i + 1 + k from by omega]
          exact this
    unfold opsTW at h
    split at h
    · rename_i hw
      obtain ⟨v, H1, h1, h2⟩ := opW_sound h
      exact key v H1 ⟨o, ho, rfl, .inl ⟨hw, h1⟩⟩ h2
    · rename_i hw
      exact key undef H ⟨o, ho, rfl, .inr ⟨by simpa using hw, rfl, rfl⟩⟩ h

/-- A read gives the same at another heap. -/
def rdOk (P : Program) (ops : Array Oper) (tr : List (List Value × Heap × Value)) (H1 : Heap) (i m : Nat) : Prop :=
  match ops[i]?, tr[i]? with
  | some o, some (l, _, v) => Region.wanted o (yieldedD ops l) = true → opW P o l (match tr[m]? with | some y => y.2.1 | none => H1) fun v' _ => v' = v
  | _, _ => False

/-- No operation of these is a call of a function value. -/
def noCallV (o : Oper) : Bool := match o.op with | .call c => (match c.callee with | .value _ => false | _ => true) | _ => true

def tabReads (ops : Array Oper) (tab : List (Nat × Nat)) : Bool := tab.all fun x => match ops[x.1]? with | some o => noCallV o | none => false

theorem opW_opD {o : Oper} {l : List Value} {K : Value → Heap → Prop} (hn : noCallV o = true) (h : opW P o l H K) : ∃ v H1, opD P o l H = some (v, H1) ∧ K v H1 := by
  obtain ⟨v, H1, h1, h2⟩ := opW_sound h
  refine ⟨v, H1, h1.opD fun c f hc hf => ?_, h2⟩
  simp [noCallV, hc, hf] at hn

theorem Wp.drawT (hmix : P.follows .mixedOrders = true) {id : Nat} {ops : Array Oper} {l : List Value} {Q : Out} (tab : List (Nat × Nat)) (htab : drawTab ops = some tab) (hn : tabReads ops tab = true)
    (h : opsTW P ops ops.toList [] l H fun tr l1 H1 => Q .normal l1 H1 ∧ ∀ x ∈ tab, rdOk P ops tr H1 x.1 x.2) : Wp P (.region id ops true) l H Q := by
  obtain ⟨T, val, l', H', ext, h0, h1, h2, h3, h4, h5, h6⟩ := opsTW_sound ops.toList 0 rfl [] l H h
  have hlen : ops.toList.length = ops.size := by simp
  rw [hlen] at h1 h2 h3 h4
  have := Sim.draw hmix (id := id) htab (T := T) (val := val) ⟨fun k hk => by simpa using h4 k hk⟩ fun i m o hm ho hw => by
    have hr := h6 (i, m) hm
    have hi : i < ops.size := (Array.getElem?_eq_some_iff.1 ho).1
    unfold rdOk at hr
    simp only [List.nil_append] at hr
    rw [ho, h3 i hi] at hr
    have hr := hr hw
    have hno : noCallV o = true := by
      unfold tabReads at hn
      have := List.all_eq_true.1 hn (i, m) hm
      simpa [ho] using this
    have hTm : (match ext[m]? with | some y => y.2.1 | none => H') = (T m).2 ∨ ops.size < m := by
      by_cases hm2 : m < ops.size
      · left; rw [h3 m hm2]
      · by_cases hm3 : m = ops.size
        · left
          rw [List.getElem?_eq_none (by omega), hm3, h1]
        · right; omega
    rcases hTm with hTm | hTm
    · rw [hTm] at hr
      obtain ⟨v, H2, h7, h8⟩ := opW_opD hno hr
      exact ⟨H2, by rw [h7, h8]⟩
    · exfalso
      unfold drawTab at htab
      split at htab
      · obtain rfl := Option.some.inj htab
        unfold readsOf at hm
        simp only [List.mem_flatMap, List.mem_ite_nil_right, List.mem_map, List.mem_filter, Prod.mk.injEq] at hm
        obtain ⟨y, _, _, m', ⟨hm', _⟩, _, rfl⟩ := hm
        simp only [List.mem_cons, List.mem_map] at hm'
        rcases hm' with rfl | ⟨k, hk, rfl⟩
        · omega
        · unfold mainsOf at hk
          simp only [List.mem_filterMap] at hk
          obtain ⟨z, hz, hz2⟩ := hk
          split at hz2
          · obtain rfl := Option.some.inj hz2
            have := List.snd_lt_of_mem_zipIdx hz
            simp at this
            omega
          · cases hz2
      · cases htab
  rw [h0, h1] at this
  exact ⟨_, _, _, this, h5⟩

/-! ### Code -/
theorem Wp_congr {c : Code} {l l' : List Value} {Q : Out} (h : l = l') : Wp P c l H Q = Wp P c l' H Q := by rw [h]
attribute [congr] Wp_congr

theorem seqQ_normal (b : Code) (Q : Out) (l : List Value) : seqQ P b Q .normal l H = Wp P b l H Q := rfl
theorem seqQ_exit (b : Code) (Q : Out) (i : Nat) (l : List Value) : seqQ P b Q (.exit i) l H = Q (.exit i) l H := rfl
theorem seqQ_ret (b : Code) (Q : Out) (l : List Value) : seqQ P b Q .ret l H = Q .ret l H := rfl
theorem blockQ_normal (id : Nat) (Q : Out) (l : List Value) : blockQ id Q .normal l H = Q .normal l H := rfl
theorem blockQ_ret (id : Nat) (Q : Out) (l : List Value) : blockQ id Q .ret l H = Q .ret l H := rfl
theorem blockQ_exit (id i : Nat) (Q : Out) (l : List Value) : blockQ id Q (.exit i) l H = if i = id then Q .normal l H else Q (.exit i) l H := by
  simp only [blockQ, Ex.out]
  split <;> rfl

/-- The code that follows, out of sight. -/
theorem Wp.seqG {a b : Code} {l : List Value} {Q : Out} (h : ∀ b', b' = b → Wp P a l H (seqQ P b' Q)) : Wp P (.seq a b) l H Q := .seq (h b rfl)

theorem Wp.iteG {t : Tmp} {x y : Code} {l : List Value} {Q : Out} (p : Prop) [Decidable p] (hc : get l t = .bool (decide p)) (hx : ∀ c, c = x → p → Wp P c l H Q) (hy : ∀ c, c = y → ¬ p → Wp P c l H Q) : Wp P (.cond (.tmp t) x y) l H Q :=
  .ite p hc rfl (hx x rfl) (hy y rfl)

theorem Wp.blockG {id : Nat} {b : Code} {l : List Value} {Q : Out} (h : ∀ b', b' = b → Wp P b' l H (blockQ id Q)) : Wp P (.block id b) l H Q := .block (h b rfl)

/-- What a round of a loop owes. -/
def roundQ (I : Nat → List Value → Heap → Prop) (n : Nat) (Q : Out) : Out := fun e l1 H1 => match e with | .normal => ∃ m, m < n ∧ I m l1 H1 | e => Q e l1 H1
theorem roundQ_normal (I : Nat → List Value → Heap → Prop) (n : Nat) (Q : Out) (l : List Value) : roundQ I n Q .normal l H = ∃ m, m < n ∧ I m l H := rfl
theorem roundQ_exit (I : Nat → List Value → Heap → Prop) (n : Nat) (Q : Out) (i : Nat) (l : List Value) : roundQ I n Q (.exit i) l H = Q (.exit i) l H := rfl
theorem roundQ_ret (I : Nat → List Value → Heap → Prop) (n : Nat) (Q : Out) (l : List Value) : roundQ I n Q .ret l H = Q .ret l H := rfl

theorem Wp.loopG {c : Code} {Q : Out} (I : Nat → List Value → Heap → Prop) {l : List Value} (n : Nat) (h : I n l H) (step : ∀ c', c' = c → ∀ n l H, I n l H → Wp P c' l H (roundQ I n Q)) : Wp P (.loop c) l H Q :=
  Wp.loop I (fun n l H hI => step c rfl n l H hI) n h

/-- A proof of what comes behind may be given once. -/
theorem Wp.cut {c : Code} {l : List Value} {Q : Out} (M : Out) (h : Wp P c l H M) (hm : ∀ e l H, M e l H → Q e l H) : Wp P c l H Q := h.mono hm

/-! ### Slots -/
theorem get_putS (l : List Value) (k t : Nat) (v : Value) : get (put l (some k) v) t = if k = t then (if k < l.length then v else get l t) else get l t := by
  rw [get_put]
  by_cases h : k = t
  · subst h; simp
  · simp [h]
theorem put_lengthS (l : List Value) (k : Nat) (v : Value) : (put l (some k) v).length = l.length := put_length l _ v


/-! ### Conditions -/
def condW (v : Value) (p q : Prop) (_k1 : Keep p := ⟨⟩) (_k2 : Keep q := ⟨⟩) : Prop := match v with | .bool c => if c = true then p else q | _ => False
theorem condW_congr {v v' : Value} {p q : Prop} (h : v = v') : condW v p q = condW v' p q := by rw [h]
attribute [congr] condW_congr
theorem condW_true (p q : Prop) : condW (.bool true) p q = p := rfl
theorem condW_false (p q : Prop) : condW (.bool false) p q = q := rfl
theorem condW_split {c : Prop} [Decidable c] {p q : Prop} (h1 : c → p) (h2 : ¬ c → q) : condW (.bool (decide c)) p q := by
  by_cases h : c
  · simp only [condW, h, decide_true, if_true]; exact h1 h
  · simp only [condW, h, decide_false, Bool.false_eq_true, if_false]; exact h2 h
theorem condW_bool {c : Bool} {p q : Prop} (h1 : c = true → p) (h2 : c = false → q) : condW (.bool c) p q := by
  cases c
  · exact h2 rfl
  · exact h1 rfl

theorem Wp.condG {t : Tmp} {x y : Code} {l : List Value} {Q : Out} (h : condW (get l t) (Wp P x l H Q) (Wp P y l H Q)) : Wp P (.cond (.tmp t) x y) l H Q := by
  unfold condW at h
  split at h
  · rename_i c hc
    refine Wp.cond c hc rfl ?_
    cases c
    · simpa using h
    · simpa using h
  · exact h.elim

/-- What comes behind a condition is proved once. -/
theorem condW_cut {v : Value} {x y : Code} {l : List Value} {Q : Out} (M : Out) (h : condW v (Wp P x l H M) (Wp P y l H M)) (hm : ∀ e l H, M e l H → Q e l H) : condW v (Wp P x l H Q) (Wp P y l H Q) := by
  cases v with
  | bool c =>
    cases c
    · exact Wp.mono (P := P) h hm
    · exact Wp.mono (P := P) h hm
  | _ => exact h

/-! ### Regions, their operations as a list -/
theorem Wp.reg {id : Nat} {os : List Oper} {l : List Value} {Q : Out} (h : opsW P os.toArray os l H fun l H => Q .normal l H) : Wp P (.region id os.toArray false) l H Q := .region h

theorem Wp.drw (hmix : P.follows .mixedOrders = true) {id : Nat} {os : List Oper} {l : List Value} {Q : Out} (htab : drawTab os.toArray = some []) (h : opsW P os.toArray os l H fun l H => Q .normal l H) : Wp P (.region id os.toArray true) l H Q :=
  .draw hmix htab h

def tabOk (f : Nat → Nat → Prop) : List (Nat × Nat) → Prop
  | [] => True
  | (i, m) :: r => f i m ∧ tabOk f r
theorem tabOk_nil (f : Nat → Nat → Prop) : tabOk f [] = True := rfl
theorem tabOk_cons (f : Nat → Nat → Prop) (i m : Nat) (r : List (Nat × Nat)) : tabOk f ((i, m) :: r) = (f i m ∧ tabOk f r) := rfl
theorem tabOk_mem {f : Nat → Nat → Prop} : ∀ {tab : List (Nat × Nat)}, tabOk f tab → ∀ x ∈ tab, f x.1 x.2
  | [], _, x, hx => by cases hx
  | (i, m) :: r, h, x, hx => by
    rcases List.mem_cons.1 hx with rfl | hx
    · exact h.1
    · exact tabOk_mem h.2 x hx

def trH (y : Option (List Value × Heap × Value)) (H1 : Heap) : Heap := match y with | some y => y.2.1 | none => H1
theorem trH_some (l : List Value) (H : Heap) (v : Value) (H1 : Heap) : trH (some (l, H, v)) H1 = H := rfl
theorem trH_none (H1 : Heap) : trH none H1 = H1 := rfl
def rdW (P : Program) (ops : Array Oper) (o : Option Oper) (t : Option (List Value × Heap × Value)) (H : Heap) : Prop :=
  match o, t with
  | some o, some (l, _, v) => Region.wanted o (yieldedD ops l) = true → opW P o l H fun v' _ => v' = v
  | _, _ => False
theorem rdOk_eq (os : List Oper) (tr : List (List Value × Heap × Value)) (H1 : Heap) (i m : Nat) : rdOk P os.toArray tr H1 i m = rdW P os.toArray os[i]? tr[i]? (trH tr[m]? H1) := by
  simp [rdOk, rdW, trH]
theorem rdW_some (ops : Array Oper) (d op ty pos af) (l : List Value) (H' : Heap) (v : Value) : rdW P ops (some ⟨d, op, ty, pos, af, none⟩) (some (l, H', v)) H = opW P ⟨d, op, ty, pos, af, none⟩ l H fun v' _ => v' = v := by
  simp [rdW, Region.wanted]

theorem Wp.drwT (hmix : P.follows .mixedOrders = true) {id : Nat} {os : List Oper} {l : List Value} {Q : Out} (tab : List (Nat × Nat)) (htab : drawTab os.toArray = some tab) (hn : tabReads os.toArray tab = true)
    (h : opsTW P os.toArray os [] l H fun tr l1 H1 => Q .normal l1 H1 ∧ tabOk (rdOk P os.toArray tr H1) tab) : Wp P (.region id os.toArray true) l H Q := by
  refine .drawT hmix tab htab hn ?_
  have key : ∀ (os' : List Oper) (tr) (l : List Value) (H : Heap) (K K' : List (List Value × Heap × Value) → List Value → Heap → Prop), (∀ tr l H, K tr l H → K' tr l H) → opsTW P os.toArray os' tr l H K → opsTW P os.toArray os' tr l H K' := by
    intro os'
    induction os' with
    | nil => intro tr l H K K' hk h; exact hk _ _ _ h
    | cons o os' ih =>
      intro tr l H K K' hk h
      unfold opsTW at h ⊢
      split
      · rename_i hw
        rw [if_pos hw] at h
        have mono : ∀ {K1 K2 : Value → Heap → Prop}, (∀ v H1, K1 v H1 → K2 v H1) → opW P o l H K1 → opW P o l H K2 := by
          intro K1 K2 hk12 h1
          obtain ⟨h2, h3⟩ := h1
          refine ⟨h2, ?_⟩
          have bw : ∀ r, bindW r K1 → bindW r K2 := fun r hr => by
            cases r with
            | none => exact hr
            | some r => exact hk12 _ _ hr
          split at h3
          · exact hk12 _ _ h3
          · exact hk12 _ _ h3
          · split at h3
            · unfold callW at h3 ⊢
              split at h3
              · obtain ⟨v, H1, a, b, c⟩ := h3; exact ⟨v, H1, a, b, hk12 _ _ c⟩
              · obtain ⟨v, H1, a, b⟩ := h3; exact ⟨v, H1, a, hk12 _ _ b⟩
              · exact h3
            · exact bw _ h3
          · exact bw _ h3
        exact mono (fun v H1 h => ih _ _ _ _ _ hk h) h
      · rename_i hw
        rw [if_neg hw] at h
        exact ih _ _ _ _ _ hk h
  exact key _ _ _ _ _ _ (fun tr l1 H1 h => ⟨h.1, tabOk_mem h.2⟩) h



theorem Wp.loopN {c : Code} {Q : Out} (I : Nat → List Value → Heap → Prop) {l : List Value} (n : Nat) (h : I n l H) (step : ∀ n l H, I n l H → Wp P c l H (roundQ I n Q)) : Wp P (.loop c) l H Q := Wp.loop I step n h

end
end Go.Ds
