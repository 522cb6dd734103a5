/-
  Ds against the model: regions that draw their order, the proof.
-/
import Derived.Test.YtoanhpaipfgnfaaDsM
set_option linter.unusedVariables false
set_option linter.unusedSimpArgs false
namespace Go.Ds
section
variable {P : Program} {ρ : Rho} {H : Heap} {w : World}

/-- A block of the world that nothing stands for is taken in. -/
theorem HRel.adopt (h : HRel P ρ H w) (cs : List Value) (ty : TypeId) (p : Place) (hoff : Off ρ p.b) (hlt : p.b < w.heap.size)
    (hcell : CellsAt P (ρ.put H.length cs.length p) w cs ty true cs.length cs.length p) :
    HRel P (ρ.put H.length cs.length p) (H.cons (.cells cs ty true cs.length 0)) w := by
  have hno : ∀ f, ρ H.length f = none := fun f => rho_none h f
  have hle : ρ.Le (ρ.put H.length cs.length p) := .put (hno _)
  have hold : ∀ A f q, (ρ.put H.length cs.length p) A f = some q → (A = H.length ∧ f = cs.length ∧ q = p) ∨ (A < H.length ∧ ρ A f = some q ∧ q.b ≠ p.b) := fun A f q hq => by
    by_cases hh : A = H.length ∧ f = cs.length
    · obtain ⟨rfl, rfl⟩ := hh; rw [Rho.put_same] at hq; exact .inl ⟨rfl, rfl, (Option.some.inj hq).symm⟩
    · rw [Rho.put_ne hh] at hq; exact .inr ⟨(h.dom _ _ _ hq).1, hq, hoff _ _ _ hq⟩
  have hget_old : ∀ A, A < H.length → hget (H.cons (.cells cs ty true cs.length 0)) A = hget H A := fun A hA => hget_cons_old _ hA
  refine ⟨?_, ?_, ?_, ?_, ?_, ?_, fun A hA => by
    by_cases he : A = H.length
    · subst he; rw [hget_cons_new]; rfl
    · rw [length_cons] at hA; rw [hget_old A (by omega)]; exact h.full A (by omega)⟩
  · intro A f q hq
    rcases hold A f q hq with ⟨rfl, rfl, rfl⟩ | ⟨hA, hq', _⟩
    · exact ⟨by simp, hlt⟩
    · exact ⟨by simp; omega, (h.dom _ _ _ hq').2⟩
  · intro A cs' ty' rw' lo' ver' hg
    have hA : A < (H.cons (.cells cs ty true cs.length 0)).length := hget_lt hg
    by_cases he : A = H.length
    · subst he
      rw [hget_cons_new] at hg
      injection (Option.some.inj hg) with e1 e2 e3 e4 e5
      subst e1 e2 e3 e4 e5
      refine ⟨⟨p, Rho.put_same _ _ _ _⟩, fun f q hq => ?_⟩
      rcases hold _ f q hq with ⟨_, rfl, rfl⟩ | ⟨hlt, _, _⟩
      · exact hcell
      · exact absurd hlt (Nat.lt_irrefl _)
    · have hA' : A < H.length := by simp at hA; omega
      rw [hget_old A hA'] at hg
      obtain ⟨⟨q, hq⟩, hall⟩ := h.cells _ _ _ _ _ _ hg
      refine ⟨⟨q, hle _ _ _ hq⟩, fun f q hq => ?_⟩
      rcases hold _ f q hq with ⟨rfl, _, _⟩ | ⟨_, hq', _⟩
      · exact absurd hA' (Nat.lt_irrefl _)
      · exact (hall f q hq').world hle rfl
  · intro A es ck ver hg
    have hA : A < (H.cons (.cells cs ty true cs.length 0)).length := hget_lt hg
    by_cases he : A = H.length
    · subst he; rw [hget_cons_new] at hg; cases hg
    · have hA' : A < H.length := by simp at hA; omega
      rw [hget_old A hA'] at hg
      obtain ⟨q, es', hq, hw, hall⟩ := h.map _ _ _ _ hg
      exact ⟨q, es', hle _ _ _ hq, hw, hall.mono fun _ _ x => x.mono hle⟩
  · intro A r hg
    have hA : A < (H.cons (.cells cs ty true cs.length 0)).length := hget_lt hg
    by_cases he : A = H.length
    · subst he; rw [hget_cons_new] at hg; cases hg
    · have hA' : A < H.length := by simp at hA; omega
      rw [hget_old A hA'] at hg
      obtain ⟨q, r', hq, hw, hall⟩ := h.loop _ _ hg
      exact ⟨q, r', hle _ _ _ hq, hw, hall.mono hle⟩
  · intro A f q blk' hq hg
    rcases hold A f q hq with ⟨rfl, rfl, rfl⟩ | ⟨hA, hq', _⟩
    · rw [hget_cons_new] at hg
      obtain rfl := Option.some.inj hg
      exact .inl rfl
    · rw [hget_old A hA] at hg
      exact h.one _ _ _ _ hq' hg
  · intro A f q A2 f2 q2 blk' hq hq2 hbb hg hwr
    rcases hold A f q hq with ⟨rfl, rfl, rfl⟩ | ⟨hA, hq', hqb⟩
    · rcases hold A2 f2 q2 hq2 with ⟨rfl, rfl, rfl⟩ | ⟨hA2, hq2', hqb2⟩
      · exact ⟨rfl, rfl⟩
      · exact absurd hbb.symm hqb2
    · rcases hold A2 f2 q2 hq2 with ⟨rfl, rfl, rfl⟩ | ⟨hA2, hq2', hqb2⟩
      · exact absurd hbb hqb
      · rw [hget_old A hA] at hg
        exact h.excl _ _ _ _ _ _ _ hq' hq2' hbb hg hwr

theorem Post.adopt {ρ0 : Rho} {H0 : Heap} {W0 : World} (h : Post P ρ0 H0 W0 ρ H w) (cs : List Value) (ty : TypeId) (p : Place) (hoff : Off ρ p.b) (hlt : p.b < w.heap.size) (hW : W0.heap.size ≤ p.b)
    (hcell : CellsAt P (ρ.put H.length cs.length p) w cs ty true cs.length cs.length p) :
    Post P ρ0 H0 W0 (ρ.put H.length cs.length p) (H.cons (.cells cs ty true cs.length 0)) w := by
  have hle : ρ.Le (ρ.put H.length cs.length p) := .put (rho_none h.rel _)
  have hold : ∀ A f q, (ρ.put H.length cs.length p) A f = some q → q = p ∨ (A < H.length ∧ ρ A f = some q) := fun A f q hq => by
    by_cases hh : A = H.length ∧ f = cs.length
    · obtain ⟨rfl, rfl⟩ := hh; rw [Rho.put_same] at hq; exact .inl (Option.some.inj hq).symm
    · rw [Rho.put_ne hh] at hq; exact .inr ⟨(h.rel.dom _ _ _ hq).1, hq⟩
  refine ⟨h.le.trans hle, h.rel.adopt cs ty p hoff hlt hcell, by have := h.len; simp; omega, h.size, h.os, h.tape, h.output, fun b hb hw => ⟨(h.frame b hb hw).1, ?_⟩, h.loops, fun b hb hw A f q hq => ?_⟩
  · rintro ⟨A, f, q, blk, hq, rfl, hg, hwr⟩
    rcases hold A f q hq with rfl | ⟨hA, hq'⟩
    · omega
    · rw [hget_cons_old _ hA] at hg
      exact (h.frame _ hb hw).2 ⟨A, f, q, blk, hq', rfl, hg, hwr⟩
  · rcases hold A f q hq with rfl | ⟨hA, hq'⟩
    · omega
    · exact h.img b hb hw _ _ _ hq'

/-- What 'new' does, and that it may come later. -/
theorem alloc_run {o : Oper} {t : TypeId} (ho : o.op = .alloc t) {l : List Value} {v : Value} {H' : Heap} (hd : opD P o l H = some (v, H')) :
    ∃ cs : List Value, H' = H.cons (.cells cs t true cs.length 0) ∧ v = .pointer (some ⟨H.length, 0, some cs.length⟩) ∧
      (∀ (w : World) (a : Act), (execOp a.eval o).run P w = .ok (.value (.pointer (some ⟨w.heap.size, 0, none⟩))) (w.alloc (.cells cs.toArray t))) ∧
      ∀ (ρ : Rho) (w : World) (b : Nat), w.heap[b]? = some (.cells cs.toArray t) → CellsAt P ρ w cs t true cs.length cs.length ⟨b, 0, cs.length, cs.length⟩ := by
  obtain ⟨dst, op, type, pos, after, guard⟩ := o
  simp only at ho
  subst ho
  simp only [opD, Option.bind_eq_some_iff] at hd
  obtain ⟨z, hz, hd⟩ := hd
  split at hd
  case isFalse => cases hd
  rename_i hf
  unfold newD at hd
  simp only at hd
  split at hd
  case isFalse => cases hd
  rename_i hcond
  simp only [Bool.and_eq_true, beq_iff_eq] at hcond
  obtain ⟨hone, hsz⟩ := hcond
  injection (Option.some.inj hd) with e1 e2
  subst e1 e2
  refine ⟨z.cells.toList, by rw [rowD_eq], rfl, fun w a => ?_, fun ρ w b hb => ?_⟩
  · have hr2 : (Instr.alloc t true (.tuple #[])).run P w = .ok (.pointer (some ⟨w.heap.size, 0, none⟩)) (w.alloc (.cells z.cells.toList.toArray t)) := by
      simp only [Instr.alloc, Sem.run_bind, run_zeroP hz, Result.andThen_ok]
      simp [newVar, newRow]
    simp only [execOp, Sem.run_bind, hr2, Result.andThen_ok, Sem.run_pure]
  · have hl : All2 (C1 ρ) z.cells.toList z.cells.toList := (V.v1 (ρ := ρ) (V1.of_flat hf)).cells hone
    refine ⟨Nat.le_refl _, hsz, by simp, z.cells.toList.toArray, t, (0, 0), hb, by simp, fun _ => rfl, fun _ i c hi _ hc => ?_⟩
    obtain ⟨c', hc', hr⟩ := hl.get i c hc
    exact ⟨c', by simpa [Place.at] using hc', hr⟩

/-! ### Slots -/
theorem ev_put (l : List Value) (d : Option Tmp) (v : Value) (t : Tmp) : ev (put l d v) (.tmp t) = if d = some t ∧ t < l.length then v else ev l (.tmp t) := by
  cases d with
  | none => simp [put]
  | some k =>
    simp only [ev, get_eq, put, setL_eq, List.getD_eq_getElem?_getD, List.getElem?_set, Option.some.injEq]
    by_cases hk : k = t
    · subst hk
      by_cases hl : k < l.length
      · simp [hl]
      · simp [hl]
    · simp [hk]

theorem eval_put (a : Act) (d : Option Tmp) (v : Value) (t : Tmp) : (a.put d v).eval (.tmp t) = if d = some t ∧ t < a.tmps.size then v else a.eval (.tmp t) := by
  cases d with
  | none => simp [Act.put]
  | some k =>
    simp only [Act.put, Act.eval, Option.some.injEq]
    by_cases hk : k = t
    · subst hk
      by_cases hl : k < a.tmps.size
      · simp [hl]
      · simp [hl]
    · simp [hk]

theorem put_length (l : List Value) (d : Option Tmp) (v : Value) : (put l d v).length = l.length := by
  cases d <;> simp [put, setL_eq]

theorem put_size (a : Act) (d : Option Tmp) (v : Value) : (a.put d v).tmps.size = a.tmps.size := by
  cases d <;> simp [Act.put]

theorem StepR.plain {o : Oper} {l : List Value} {v : Value} {H' : Heap} (h : StepR P o l H v H') (hm : isMain o.op = false) : Go.Ds.opD P o l H = some (v, H') := by
  refine h.opD fun c f hc hf => ?_
  simp [isMain, hc, hf] at hm

/-! ### The invariant -/
/-- The text's run: states ahead of each operation, what each gives. -/
structure Text (P : Program) (ops : Array Oper) (T : Nat → List Value × Heap) (val : Nat → Value) : Prop where
  step : ∀ k, k < ops.size → StepT P ops k (T k) (T (k + 1)) (val k)

section
variable {ops : Array Oper} {T : Nat → List Value × Heap} {val : Nat → Value}

theorem Text.length (X : Text P ops T val) : ∀ k, k ≤ ops.size → (T k).1.length = (T 0).1.length
  | 0, _ => rfl
  | k + 1, hk => by
    obtain ⟨o, _, h, _⟩ := X.step k (by omega)
    rw [h, put_length, X.length k (by omega)]

theorem Text.at (X : Text P ops T val) {k : Nat} {o : Oper} (ho : ops[k]? = some o) : (T (k + 1)).1 = put (T k).1 o.dst (val k) ∧
    ((Region.wanted o (yieldedD ops (T k).1) = true ∧ StepR P o (T k).1 (T k).2 (val k) (T (k + 1)).2) ∨ (Region.wanted o (yieldedD ops (T k).1) = false ∧ val k = undef ∧ (T (k + 1)).2 = (T k).2)) := by
  obtain ⟨o', ho', h⟩ := X.step k (Array.getElem?_eq_some_iff.1 ho).1
  rw [ho] at ho'
  obtain rfl := Option.some.inj ho'
  exact h

/-- A slot that no operation of the text so far has written. -/
theorem Text.old (X : Text P ops T val) {t : Tmp} : ∀ k, k ≤ ops.size → (∀ i o, i < k → ops[i]? = some o → o.dst ≠ some t) → ev (T k).1 (.tmp t) = ev (T 0).1 (.tmp t)
  | 0, _, _ => rfl
  | k + 1, hk, h => by
    obtain ⟨o, ho, h1, _⟩ := X.step k (by omega)
    rw [h1, ev_put, if_neg (fun hh => h k o (by omega) ho hh.1), X.old k (by omega) fun i o' hi => h i o' (by omega)]

/-- A slot that an operation has written. -/
theorem Text.new (X : Text P ops T val) (D : Draw ops) {i : Nat} {o : Oper} (ho : ops[i]? = some o) {t : Tmp} (hd : o.dst = some t) (ht : t < (T 0).1.length) : ∀ k, i < k → k ≤ ops.size → ev (T k).1 (.tmp t) = val i
  | 0, h, _ => absurd h (Nat.not_lt_zero _)
  | k + 1, hk, hn => by
    obtain ⟨o', ho', h1, _⟩ := X.step k (by omega)
    rw [h1, ev_put]
    by_cases hik : i = k
    · subst hik
      rw [ho] at ho'
      obtain rfl := Option.some.inj ho'
      rw [if_pos ⟨hd, by rw [X.length _ (by omega)]; exact ht⟩]
    · rw [if_neg fun hh => D.ne (by omega) ho ho' hd hh.1]
      exact X.new D ho hd ht k (by omega) (by omega)

/-- Operations that are no effect leave the text's heap. -/
theorem Text.still (X : Text P ops T val) {k : Nat} {o : Oper} (ho : ops[k]? = some o) (hm : isMain o.op = false) (ha : isAlloc o.op = false) : (T (k + 1)).2 = (T k).2 := by
  rcases (X.at ho).2 with ⟨_, h⟩ | ⟨_, _, h⟩
  · have hd := h.plain hm
    cases hr : isRead o.op with
    | true => exact read_same hr hm hd
    | false => exact (pure_any .nil hm ha hr hd).1
  · exact h

theorem Text.stills (X : Text P ops T val) {i : Nat} : ∀ k, i ≤ k → k ≤ ops.size → (∀ j o, i ≤ j → j < k → ops[j]? = some o → isMain o.op = false ∧ isAlloc o.op = false) → (T k).2 = (T i).2
  | 0, h, _, _ => by rw [Nat.le_zero.1 h]
  | k + 1, h, hk, hh => by
    by_cases he : i = k + 1
    · rw [he]
    · obtain ⟨o, ho, _⟩ := X.step k (by omega)
      have := hh k o (by omega) (by omega) ho
      rw [X.still ho this.1 this.2, X.stills k (by omega) (by omega) fun j o h1 h2 => hh j o h1 (by omega)]

/-- What holds ahead of each operation, in whatever order they come. -/
structure Inv (P : Program) (ops : Array Oper) (T : Nat → List Value × Heap) (val : Nat → Value) (ρ0 : Rho) (W0 : World) (ds : List Deferred) (S : Nat → Prop) (pl : Nat → Nat) (m : Nat) (ρ : Rho) (a : Act) (w : World) : Prop where
  le : m ≤ ops.size
  post : Post P ρ0 (T 0).2 W0 ρ (T m).2 w
  closed : Closed ops S
  mains : ∀ i o, ops[i]? = some o → isMain o.op = true → (S i ↔ i < m)
  allocs : ∀ i o, ops[i]? = some o → isAlloc o.op = true → i < m → S i
  pend : ∀ i o t, ops[i]? = some o → o.op = .alloc t → m ≤ i → S i → W0.heap.size ≤ pl i ∧ pl i < w.heap.size ∧ Off ρ (pl i) ∧
    (∃ cs : List Value, w.heap[pl i]? = some (.cells cs.toArray t) ∧ (T (i + 1)).2 = (T i).2.cons (.cells cs t true cs.length 0) ∧ val i = .pointer (some ⟨(T i).2.length, 0, some cs.length⟩) ∧
      (∀ (ρ : Rho) (w : World) (b : Nat), w.heap[b]? = some (.cells cs.toArray t) → CellsAt P ρ w cs t true cs.length cs.length ⟨b, 0, cs.length, cs.length⟩)) ∧
    ∀ d, o.dst = some d → d < (T 0).1.length → a.eval (.tmp d) = .pointer (some ⟨pl i, 0, none⟩)
  apart : ∀ i j x y, ops[i]? = some x → ops[j]? = some y → isAlloc x.op = true → isAlloc y.op = true → m ≤ i → m ≤ j → S i → S j → pl i = pl j → i = j
  size : a.tmps.size = (T 0).1.length
  old : ∀ t, (∀ i o, S i → ops[i]? = some o → o.dst ≠ some t) → V ρ (ev (T 0).1 (.tmp t)) (a.eval (.tmp t))
  new : ∀ i o t, S i → ops[i]? = some o → o.dst = some t → t < (T 0).1.length → (isAlloc o.op = true → i < m) → V ρ (val i) (a.eval (.tmp t))
  defers : a.defers = ds

variable {ρ0 : Rho} {W0 : World} {ds : List Deferred} {S : Nat → Prop} {pl : Nat → Nat} {m : Nat} {a : Act}

theorem ev_out {l : List Value} {t : Tmp} (h : l.length ≤ t) : ev l (.tmp t) = undef := by
  simp [ev, get_eq, List.getD_eq_getElem?_getD, List.getElem?_eq_none h]

theorem eval_out {a : Act} {t : Tmp} (h : a.tmps.size ≤ t) : a.eval (.tmp t) = undef := by
  simp [Act.eval, h]

/-- What an operation that may come looks at. -/
theorem Inv.looks (I : Inv P ops T val ρ0 W0 ds S pl m ρ a w) (X : Text P ops T val) (D : Draw ops) {i : Nat} {o : Oper} (ho : ops[i]? = some o) (hS : ¬ S i) (hr : ∀ e ∈ o.after, Region.binds .any e = true → S e.on) (hm : isMain o.op = true → m = i)
    {t : Tmp} (ht : t ∈ o.looksAt ops) : V ρ (ev (T i).1 (.tmp t)) (a.eval (.tmp t)) := by
  have hi : i < ops.size := (Array.getElem?_eq_some_iff.1 ho).1
  by_cases hl : (T 0).1.length ≤ t
  · rw [ev_out (by rw [X.length i (by omega)]; exact hl), eval_out (by rw [I.size]; exact hl)]
    exact .undef
  have hl : t < (T 0).1.length := Nat.lt_of_not_le hl
  by_cases hk : ∃ k x, k < i ∧ ops[k]? = some x ∧ x.dst = some t
  · obtain ⟨k, x, hki, hx, hd⟩ := hk
    have hSk : S k := D.bef I.closed i o ho hr k (D.raw hki hx ho hd ht)
    rw [X.new D hx hd hl i hki (by omega)]
    exact I.new k x t hSk hx hd hl fun hal => by
      have := D.fresh hki hx ho hd hal ht
      rw [hm this]
      exact hki
  · rw [X.old i (by omega) fun k x hki hx hd => hk ⟨k, x, hki, hx, hd⟩]
    refine I.old t fun k x hSk hx hd => ?_
    rcases Nat.lt_trichotomy k i with h | h | h
    · exact hk ⟨k, x, h, hx, hd⟩
    · exact hS (h ▸ hSk)
    · exact hS (D.bef I.closed k x hx (fun e he hb => I.closed k x hSk hx e he hb) i (D.war h ho hx hd ht))

theorem Inv.operands (I : Inv P ops T val ρ0 W0 ds S pl m ρ a w) (X : Text P ops T val) (D : Draw ops) {i : Nat} {o : Oper} (ho : ops[i]? = some o) (hS : ¬ S i) (hr : ∀ e ∈ o.after, Region.binds .any e = true → S e.on) (hm : isMain o.op = true → m = i) :
    ∀ x, x ∈ o.op.operands → operandOk x = true → V ρ (ev (T i).1 x) (a.eval x) := fun x hx hok => by
  cases x with
  | tmp t => exact I.looks X D ho hS hr hm (by
      unfold Oper.looksAt
      simp only [List.mem_append, List.mem_filterMap]
      exact .inl ⟨.tmp t, by simpa using hx, rfl⟩)
  | const v => exact .of_flat hok
  | global g => simp [operandOk] at hok
  | func f => exact .v1 (.c1 (.fn trivial trivial))

theorem yielded_of {l : List Value} {a : Act} {ops : Array Oper} {j : Nat} (h : ∀ d, ((ops[j]?).bind (·.dst)) = some d → V ρ (ev l (.tmp d)) (a.eval (.tmp d))) : yielded ops a.tmps j = yieldedD ops l j := by
  unfold yielded yieldedD
  cases hd : (ops[j]?).bind (·.dst) with
  | none => rfl
  | some d =>
    have hv := h d hd
    simp only [ev, get_eq, Act.eval, List.getD_eq_getElem?_getD] at hv
    simp only [Option.bind_some]
    cases h1 : l[d]? with
    | none =>
      rw [h1, Option.getD_none] at hv
      have := hv.eq_of_flat rfl
      cases h2 : a.tmps[d]? with
      | none => rfl
      | some v' =>
        have : v' = undef := by simpa [h2] using this
        subst this
        rfl
    | some v =>
      rw [h1, Option.getD_some] at hv
      cases h2 : a.tmps[d]? with
      | none =>
        cases v with
        | bool b => have := hv.bool_inv; simp [h2] at this; cases this
        | _ => rfl
      | some v' =>
        have hv : V ρ v v' := by simpa [h2] using hv
        cases v' with
        | bool b => rw [hv.of_bool]
        | _ =>
          cases v with
          | bool b => have := hv.bool_inv; cases this
          | _ => rfl

theorem Inv.wanted (I : Inv P ops T val ρ0 W0 ds S pl m ρ a w) (X : Text P ops T val) (D : Draw ops) {i : Nat} {o : Oper} (ho : ops[i]? = some o) (hS : ¬ S i) (hr : ∀ e ∈ o.after, Region.binds .any e = true → S e.on) (hm : isMain o.op = true → m = i) :
    Region.wanted o (yielded ops a.tmps) = Region.wanted o (yieldedD ops (T i).1) := by
  unfold Region.wanted
  cases hg : o.guard with
  | none => rfl
  | some g =>
    simp only
    rw [yielded_of (l := (T i).1) fun d hd => I.looks X D ho hS hr hm (by
      unfold Oper.looksAt
      simp only [hg, List.mem_append]
      exact .inr (by rw [hd]; simp))]

theorem isAlloc_iff {o : Op} : isAlloc o = true ↔ ∃ t, o = .alloc t := by
  cases o <;> simp [isAlloc]

theorem not_wr_of_off {b : Nat} (h : Off ρ b) : ¬ Wr ρ H b := by
  rintro ⟨A, e, p, blk, hp, hb, _⟩
  exact h _ _ _ hp hb

/-- Past an operation that is no effect. -/
theorem Inv.skip (I : Inv P ops T val ρ0 W0 ds S pl m ρ a w) (X : Text P ops T val) {o : Oper} (ho : ops[m]? = some o) (hm : isMain o.op = false) (ha : isAlloc o.op = false) : Inv P ops T val ρ0 W0 ds S pl (m + 1) ρ a w := by
  have hlt : m < ops.size := (Array.getElem?_eq_some_iff.1 ho).1
  have hno : ∀ i x, ops[i]? = some x → (isMain x.op = true ∨ isAlloc x.op = true) → i ≠ m := fun i x hx he hi => by
    subst hi
    rw [ho] at hx
    obtain rfl := Option.some.inj hx
    rcases he with he | he
    · rw [hm] at he; cases he
    · rw [ha] at he; cases he
  refine ⟨hlt, by rw [X.still ho hm ha]; exact I.post, I.closed, fun i x hx hmx => (I.mains i x hx hmx).trans ?_, fun i x hx hax hi => ?_, fun i x t hx hax hi => I.pend i x t hx hax (by omega), fun i j x y hx hy h1 h2 h3 h4 => I.apart i j x y hx hy h1 h2 (by omega) (by omega), I.size, I.old, fun i x t hS hx hd hl hal => I.new i x t hS hx hd hl fun h => ?_, I.defers⟩
  · have := hno i x hx (.inl hmx); omega
  · have := hno i x hx (.inr hax); exact I.allocs i x hx hax (by omega)
  · have := hno i x hx (.inr h); have := hal h; omega

/-- Past an allocation that has come already. -/
theorem Inv.adopt (I : Inv P ops T val ρ0 W0 ds S pl m ρ a w) (D : Draw ops) {o : Oper} (ho : ops[m]? = some o) (ha : isAlloc o.op = true) (hS : S m) : ∃ ρ', Inv P ops T val ρ0 W0 ds S pl (m + 1) ρ' a w := by
  have hlt : m < ops.size := (Array.getElem?_eq_some_iff.1 ho).1
  obtain ⟨ty, hty⟩ := isAlloc_iff.1 ha
  obtain ⟨h1, h2, h3, ⟨cs, h4, h5, h6, h7⟩, h8⟩ := I.pend m o ty ho hty (Nat.le_refl _) hS
  have hpost := I.post.adopt cs ty ⟨pl m, 0, cs.length, cs.length⟩ h3 h2 h1 (h7 _ w (pl m) h4)
  rw [← h5] at hpost
  have hle : ρ.Le (ρ.put (T m).2.length cs.length ⟨pl m, 0, cs.length, cs.length⟩) := .put (rho_none I.post.rel _)
  have hmain : isMain o.op = false := by rw [hty]; rfl
  refine ⟨_, hlt, hpost, I.closed, fun i x hx hmx => (I.mains i x hx hmx).trans ?_, fun i x hx hax hi => ?_, fun i x t hx hax hi hSi => ?_, fun i j x y hx hy h1 h2 h3 h4 => I.apart i j x y hx hy h1 h2 (by omega) (by omega), I.size, fun t ht => (I.old t ht).mono hle, fun i x t hSi hx hd hl hal => ?_, I.defers⟩
  · have : i ≠ m := fun hi => by
      subst hi
      rw [ho] at hx
      obtain rfl := Option.some.inj hx
      rw [hmain] at hmx; cases hmx
    omega
  · by_cases hi2 : i = m
    · rw [hi2]; exact hS
    · exact I.allocs i x hx hax (by omega)
  · obtain ⟨k1, k2, k3, k4, k5⟩ := I.pend i x t hx hax (by omega) hSi
    refine ⟨k1, k2, fun A e p hp => ?_, k4, k5⟩
    by_cases hh : A = (T m).2.length ∧ e = cs.length
    · obtain ⟨rfl, rfl⟩ := hh
      rw [Rho.put_same] at hp
      obtain rfl := Option.some.inj hp
      intro hpl
      have := I.apart m i o x ho hx ha (isAlloc_iff.2 ⟨t, hax⟩) (Nat.le_refl _) (by omega) hS hSi hpl
      omega
    · rw [Rho.put_ne hh] at hp
      exact k3 _ _ _ hp
  · by_cases hi : i = m
    · subst hi
      rw [ho] at hx
      obtain rfl := Option.some.inj hx
      rw [h6, h8 t hd hl]
      have := C0.ptr (ρ := ρ.put (T i).2.length cs.length ⟨pl i, 0, cs.length, cs.length⟩) (A := (T i).2.length) (i := 0) (e := cs.length) (Rho.put_same _ _ _ _) (by simp)
      exact .v1 (.c1 (.c0 (by simpa [Place.at] using this)))
    · exact (I.new i x t hSi hx hd hl fun h => by have := hal h; omega).mono hle

/-- Past all that has come. -/
theorem Inv.upTo (X : Text P ops T val) (D : Draw ops) : ∀ (n m : Nat) (ρ : Rho), Inv P ops T val ρ0 W0 ds S pl m ρ a w → m + n ≤ ops.size → (∀ k x, m ≤ k → k < m + n → ops[k]? = some x → isMain x.op = false ∧ (isAlloc x.op = true → S k)) → ∃ ρ', Inv P ops T val ρ0 W0 ds S pl (m + n) ρ' a w
  | 0, m, ρ, I, _, _ => ⟨ρ, I⟩
  | n + 1, m, ρ, I, hn, hh => by
    have ho : ops[m]? = some (ops[m]'(by omega)) := Array.getElem?_eq_some_iff.2 ⟨by omega, rfl⟩
    obtain ⟨h1, h2⟩ := hh m _ (Nat.le_refl _) (by omega) ho
    have step : ∃ ρ', Inv P ops T val ρ0 W0 ds S pl (m + 1) ρ' a w := by
      cases ha : isAlloc (ops[m]'(by omega)).op with
      | true => exact I.adopt D ho ha (h2 ha)
      | false => exact ⟨ρ, I.skip X ho h1 ha⟩
    obtain ⟨ρ1, I1⟩ := step
    obtain ⟨ρ2, I2⟩ := Inv.upTo X D n (m + 1) ρ1 I1 (by omega) fun k x h3 h4 => hh k x (by omega) (by omega)
    exact ⟨ρ2, by rw [show m + (n + 1) = m + 1 + n by omega]; exact I2⟩

/-- An operation has come. -/
theorem Inv.next (I : Inv P ops T val ρ0 W0 ds S pl m ρ a w) (X : Text P ops T val) (D : Draw ops) {i : Nat} {o : Oper} (ho : ops[i]? = some o) (hS : ¬ S i) (hr : ∀ e ∈ o.after, Region.binds .any e = true → S e.on) (hna : isAlloc o.op = false)
    {m' : Nat} (hm' : (isMain o.op = true ∧ m = i ∧ m' = i + 1) ∨ (isMain o.op = false ∧ m' = m)) {ρ' : Rho} {v' : Value} {w' : World} (hp : Post P ρ (T m).2 w ρ' (T m').2 w') (hv : V ρ' (val i) v') :
    Inv P ops T val ρ0 W0 ds (fun k => S k ∨ k = i) pl m' ρ' (a.put o.dst v') w' := by
  have hi : i < ops.size := (Array.getElem?_eq_some_iff.1 ho).1
  have hmm : m ≤ m' := by rcases hm' with ⟨_, rfl, rfl⟩ | ⟨_, rfl⟩ <;> omega
  have hne : ∀ k x, ops[k]? = some x → k ≠ i → ∀ d, x.dst = some d → o.dst ≠ some d := fun k x hx hki d hd hod => by
    rcases Nat.lt_or_gt_of_ne hki with h | h
    · exact D.ne h hx ho hd hod
    · exact D.ne h ho hx hod hd
  have hnot : ∀ k x, ops[k]? = some x → isAlloc x.op = true → k ≠ i := fun k x hx hax hki => by
    subst hki
    rw [ho] at hx
    obtain rfl := Option.some.inj hx
    rw [hna] at hax; cases hax
  refine ⟨?_, I.post.trans hp, ?_, fun k x hx hmx => ?_, fun k x hx hax hk => ?_, fun k x t hx hax hk hSk => ?_, fun k j x y hx hy h1 h2 h3 h4 h5 h6 => ?_, by rw [put_size]; exact I.size, fun t ht => ?_, fun k x t hSk hx hd hl hal => ?_, by rw [put_defers]; exact I.defers⟩
  · rcases hm' with ⟨_, rfl, rfl⟩ | ⟨_, rfl⟩
    · exact hi
    · exact I.le
  · intro j x hj hx e he hb
    rcases hj with hj | rfl
    · exact .inl (I.closed j x hj hx e he hb)
    · rw [ho] at hx
      obtain rfl := Option.some.inj hx
      exact .inl (hr e he hb)
  · rcases hm' with ⟨h1, rfl, rfl⟩ | ⟨h1, rfl⟩
    · rw [I.mains k x hx hmx]; omega
    · rw [I.mains k x hx hmx]
      have : k ≠ i := fun hki => by
        subst hki
        rw [ho] at hx
        obtain rfl := Option.some.inj hx
        rw [h1] at hmx; cases hmx
      omega
  · have hki := hnot k x hx hax
    refine .inl (I.allocs k x hx hax ?_)
    rcases hm' with ⟨_, rfl, rfl⟩ | ⟨_, rfl⟩ <;> omega
  · have hki := hnot k x hx (isAlloc_iff.2 ⟨t, hax⟩)
    obtain ⟨k1, k2, k3, ⟨cs, k4, k5⟩, k6⟩ := I.pend k x t hx hax (by omega) (hSk.resolve_right hki)
    refine ⟨k1, Nat.lt_of_lt_of_le k2 hp.size, hp.img _ k2 k3, ⟨cs, by rw [(hp.frame _ k2 (not_wr_of_off k3)).1]; exact k4, k5⟩, fun d hd hl => ?_⟩
    rw [eval_put, if_neg fun hh => hne k x hx hki d hd hh.1]
    exact k6 d hd hl
  · exact I.apart k j x y hx hy h1 h2 (by omega) (by omega) (h5.resolve_right (hnot k x hx h1)) (h6.resolve_right (hnot j y hy h2))
  · rw [eval_put, if_neg fun hh => ht i o (.inr rfl) ho hh.1]
    exact (I.old t fun k x hk => ht k x (.inl hk)).mono hp.le
  · by_cases hki : k = i
    · subst hki
      rw [ho] at hx
      obtain rfl := Option.some.inj hx
      rw [eval_put, if_pos ⟨hd, by rw [I.size]; exact hl⟩]
      exact hv
    · rw [eval_put, if_neg fun hh => hne k x hx hki t hd hh.1]
      refine (I.new k x t (hSk.resolve_right hki) hx hd hl fun h => ?_).mono hp.le
      have h1 := hal h
      rcases hm' with ⟨_, rfl, rfl⟩ | ⟨_, rfl⟩ <;> omega

/-- An allocation comes, ahead of its place in the text. -/
theorem Inv.early (I : Inv P ops T val ρ0 W0 ds S pl m ρ a w) (X : Text P ops T val) (D : Draw ops) {i : Nat} {o : Oper} (ho : ops[i]? = some o) (hS : ¬ S i) (hr : ∀ e ∈ o.after, Region.binds .any e = true → S e.on) {t : TypeId} (hal : o.op = .alloc t) :
    ∃ (v' : Value) (w' : World), (execOp a.eval o).run P w = .ok (.value v') w' ∧ Inv P ops T val ρ0 W0 ds (fun k => S k ∨ k = i) (fun k => if k = i then w.heap.size else pl k) m ρ (a.put o.dst v') w' := by
  have hi : i < ops.size := (Array.getElem?_eq_some_iff.1 ho).1
  have hmi : m ≤ i := Nat.le_of_not_lt fun h => hS (I.allocs i o ho (isAlloc_iff.2 ⟨t, hal⟩) h)
  have hw : Region.wanted o (yieldedD ops (T i).1) = true := by
    unfold Region.wanted
    rw [D.guard i o ho (isAlloc_iff.2 ⟨t, hal⟩)]
  have hst : StepR P o (T i).1 (T i).2 (val i) (T (i + 1)).2 := by
    rcases (X.at ho).2 with ⟨_, h⟩ | ⟨h, _⟩
    · exact h
    · rw [hw] at h; cases h
  obtain ⟨cs, h1, h2, h3, h4⟩ := alloc_run hal (hst.plain (by rw [hal]; rfl))
  refine ⟨_, _, h3 w a, ?_⟩
  have hp := Post.allocOther I.post.rel (.cells cs.toArray t)
  have hne : ∀ k x, ops[k]? = some x → k ≠ i → ∀ d, x.dst = some d → o.dst ≠ some d := fun k x hx hki d hd hod => by
    rcases Nat.lt_or_gt_of_ne hki with h | h
    · exact D.ne h hx ho hd hod
    · exact D.ne h ho hx hod hd
  have hoff : Off ρ w.heap.size := fun A e p hq => by have := (I.post.rel.dom _ _ _ hq).2; omega
  refine ⟨I.le, I.post.trans hp, ?_, fun k x hx hmx => ?_, fun k x hx hax hk => .inl (I.allocs k x hx hax hk), fun k x t' hx hax hk hSk => ?_, fun k j x y hx hy g1 g2 g3 g4 g5 g6 g7 => ?_, by rw [put_size]; exact I.size, fun t' ht => ?_, fun k x t' hSk hx hd hl hal' => ?_, by rw [put_defers]; exact I.defers⟩
  · intro j x hj hx e he hb
    rcases hj with hj | rfl
    · exact .inl (I.closed j x hj hx e he hb)
    · rw [ho] at hx
      obtain rfl := Option.some.inj hx
      exact .inl (hr e he hb)
  · have : k ≠ i := fun hki => by
      subst hki
      rw [ho] at hx
      obtain rfl := Option.some.inj hx
      rw [hal] at hmx; cases hmx
    rw [← I.mains k x hx hmx]
    simp [this]
  · by_cases hki : k = i
    · subst hki
      rw [ho] at hx
      obtain rfl := Option.some.inj hx
      rw [hal] at hax
      obtain rfl := Op.alloc.inj hax
      simp only [if_true]
      refine ⟨I.post.size, by simp, hoff, ⟨cs, heap_alloc_new _ _, h1, h2, h4⟩, fun d hd hl => ?_⟩
      rw [eval_put, if_pos ⟨hd, by rw [I.size]; exact hl⟩]
    · simp only [hki, if_false]
      obtain ⟨k1, k2, k3, ⟨cs', k4, k5⟩, k6⟩ := I.pend k x t' hx hax hk (hSk.resolve_right hki)
      refine ⟨k1, by simp; omega, k3, ⟨cs', by rw [heap_alloc_old k2]; exact k4, k5⟩, fun d hd hl => ?_⟩
      rw [eval_put, if_neg fun hh => hne k x hx hki d hd hh.1]
      exact k6 d hd hl
  · have lt : ∀ k x, ops[k]? = some x → isAlloc x.op = true → m ≤ k → S k → pl k < w.heap.size := fun k x hx ha hk hSk => by
      obtain ⟨t', ht'⟩ := isAlloc_iff.1 ha
      exact (I.pend k x t' hx ht' hk hSk).2.1
    by_cases hki : k = i
    · by_cases hji : j = i
      · rw [hki, hji]
      · simp only [hki, hji, if_true, if_false] at g7
        have := lt j y hy g2 g4 (g6.resolve_right hji); omega
    · by_cases hji : j = i
      · simp only [hki, hji, if_true, if_false] at g7
        have := lt k x hx g1 g3 (g5.resolve_right hki); omega
      · simp only [hki, hji, if_false] at g7
        exact I.apart k j x y hx hy g1 g2 g3 g4 (g5.resolve_right hki) (g6.resolve_right hji) g7
  · rw [eval_put, if_neg fun hh => ht i o (.inr rfl) ho hh.1]
    exact I.old t' fun k x hk => ht k x (.inl hk)
  · have hki : k ≠ i := fun hki => by
      subst hki
      rw [ho] at hx
      obtain rfl := Option.some.inj hx
      have := hal' (isAlloc_iff.2 ⟨t, hal⟩)
      omega
    rw [eval_put, if_neg fun hh => hne k x hx hki t' hd hh.1]
    exact I.new k x t' (hSk.resolve_right hki) hx hd hl hal'
end
end
end Go.Ds
