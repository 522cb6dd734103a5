/-
  Ds: ranging over a function, in the calculus that goes from the end to the beginning.
-/
import Derived.Test.YtoanhpaipfgnfaaDsZ
set_option linter.unusedVariables false
set_option linter.unusedSimpArgs false
namespace Go.Ds
section
variable {P : Program} {B : Base} {H : Heap}

/-- As 'Fn', with the run of the body. -/
def FnS (P : Program) (k : FuncId) (args : List Value) (H : Heap) (R : Value → Heap → Prop) : Prop :=
  ∃ fn c e l1 H1 v, P.funcs[k]? = some fn ∧ fn.body = some c ∧ (fn.name == "runtime.NumGoroutine") = false ∧ Sim P c (args ++ List.replicate (fn.ntmps - args.length) undef) H e l1 H1 ∧ (e = .normal ∨ e = .ret) ∧ resultsD P fn l1 H1 = some v ∧ R v H1

theorem FnS.of_wp {k : FuncId} {fn : Func} {c : Code} {args : List Value} {R : Value → Heap → Prop} (hf : P.funcs[k]? = some fn) (hb : fn.body = some c) (hn : (fn.name == "runtime.NumGoroutine") = false)
    (h : ∀ l, l = args ++ List.replicate (fn.ntmps - args.length) undef → Wp P c l H (endQ P fn R)) : FnS P k args H R := by
  obtain ⟨e, l1, H1, h1, h2, h3⟩ := h _ rfl
  unfold bindV at h3
  split at h3
  · rename_i v hv; exact ⟨fn, c, e, l1, H1, v, hf, hb, hn, h1, h2, hv, h3⟩
  · exact h3.elim

theorem FnS.fn {k : FuncId} {args : List Value} {R : Value → Heap → Prop} (h : FnS P k args H R) : Fn P k args H R := by
  obtain ⟨fn, c, e, l1, H1, v, hf, hb, hn, h1, h2, h3, h4⟩ := h
  exact ⟨⟨fn, hf, by simp [hb], hn⟩, v, H1, .of_sim hf hb hn h1 h2 h3, h4⟩

theorem FnS.mono {k : FuncId} {args : List Value} {R R' : Value → Heap → Prop} (h : FnS P k args H R) (hr : ∀ v H1, R v H1 → R' v H1) : FnS P k args H R' := by
  obtain ⟨fn, c, e, l1, H1, v, hf, hb, hn, h1, h2, h3, h4⟩ := h
  exact ⟨fn, c, e, l1, H1, v, hf, hb, hn, h1, h2, h3, hr _ _ h4⟩

/-- The record of a loop over a function, as it begins. -/
def loop0 (l : List Value) (ps : Array Tmp) (assign body : Code) : Loop := { state := .ready, pending := none, fn := 0, tmps := l.toArray, params := ps, assign := assign, body := body, defers := 0 }

/-- What is owed behind the iterator's call. -/
def afterQ (P : Program) (l : List Value) (L : Nat) (Q : Out) : Value → Heap → Prop := fun _ H2 => ∃ r, hget H2 L = some (.loop r) ∧ r.state ≠ .busy ∧
  (r.pending = none → Q .normal l (hset H2 L (.loop { r with state := .exhausted }))) ∧ ∀ c, r.pending = some c → Wp P c l (hset H2 L (.loop { r with state := .exhausted })) Q

theorem Wp.range {g : Operand} {ps : Array Tmp} {assign body : Code} {l : List Value} {Q : Out} {k : FuncId} {first captured : List Value} (hgo : operandOk g = true) (hg : ev l g = .func (.func k) first.toArray captured.toArray)
    (h : FnS P k (first ++ [.func (.yield H.length) #[] #[]] ++ captured) (H.cons (.loop (loop0 l ps assign body))) (afterQ P l H.length Q)) : Wp P (.rangeFunc g ps assign body) l H Q := by
  classical
  obtain ⟨fn, c, e, l1, H2, v, hf, hb, hn, hs, he, hres, r, hr, hnb, hp⟩ := h
  let sl := (first ++ [Value.func (.yield H.length) #[] #[]] ++ captured) ++ List.replicate (fn.ntmps - (first ++ [Value.func (.yield H.length) #[] #[]] ++ captured).length) undef
  let H1 := H.cons (.loop (loop0 l ps assign body))
  let ex : Run := fun c' l' H' => if c' = c ∧ l' = sl ∧ H' = H1 then some (e, l1, H2) else none
  have hex : ∀ c l H e l' H', ex c l H = some (e, l', H') → Sim P c l H e l' H' := by
    intro c' l' H' e' l2 H3 hh
    simp only [ex] at hh
    split at hh
    · rename_i h1
      obtain ⟨rfl, rfl, rfl⟩ := h1
      injection hh with hh
      injection hh with h1 hh
      injection hh with h2 h3
      subst h1 h2 h3
      exact hs
    · cases hh
  have hc : enterD P ex (ev l g) H.length (H.cons (.loop { state := .ready, pending := none, fn := 0, tmps := l.toArray, params := ps, assign, body, defers := 0 })) = some (v, H2) := by
    unfold enterD
    rw [hg]
    show callF P ex k (first ++ [Value.func (.yield H.length) #[] #[]] ++ captured) H1 = some (v, H2)
    unfold callF
    rw [hf]
    have h1 : ex c sl H1 = some (e, l1, H2) := by simp [ex]
    simp only [hb, hn, Bool.false_eq_true, if_false]
    rw [show ex c ((first ++ [Value.func (.yield H.length) #[] #[]] ++ captured) ++ List.replicate (fn.ntmps - (first ++ [Value.func (.yield H.length) #[] #[]] ++ captured).length) undef) H1 = some (e, l1, H2) from h1]
    rcases he with rfl | rfl <;> simp [hres]
  by_cases hpend : r.pending = none
  · exact ⟨.normal, l, _, range_ok hex hc hgo hr hnb (fun _ => ⟨rfl, rfl, rfl⟩) (fun c h => by rw [hpend] at h; cases h), hp.1 hpend⟩
  · obtain ⟨c', hc'⟩ := Option.ne_none_iff_exists'.1 hpend
    obtain ⟨e', l', H', hs', hq⟩ := hp.2 c' hc'
    exact ⟨e', l', H', range_ok hex hc hgo hr hnb (fun h => absurd h hpend) (fun c h => by
      rw [hc'] at h
      obtain rfl := Option.some.inj h
      exact hs'), hq⟩

/-- How a round ends. -/
def jumpOf : Ex → Option Code
  | .normal => none
  | .ret => some .ret
  | .exit id => some (.exit id)

theorem callW_yield {L : Nat} {args : List Value} {K : Value → Heap → Prop} {r : Loop} (hg : hget H L = some (.loop r)) (hn : r.params.size = args.length) (hst : r.state = .ready)
    (h : Wp P r.assign ((r.params.toList.zip args).foldl (fun t (p, v) => t.set p v) r.tmps.toList) H fun e l1 H1 => e = .normal ∧ ∃ r1, hget H1 L = some (.loop r1) ∧ r1.state = .ready ∧
      Wp P r.body l1 (hset H1 L (.loop { r1 with state := .busy })) fun e _ H2 => ∃ r2, hget H2 L = some (.loop r2) ∧
        K (.bool (jumpOf e).isNone) (hset H2 L (.loop { r2 with state := if (jumpOf e).isNone then .ready else .done, pending := jumpOf e }))) :
    callW P (.func (.yield L) #[] #[]) args H K := by
  classical
  obtain ⟨e1, l1, H1, hs1, rfl, r1, hg1, hst1, e2, l2, H2, hs2, r2, hg2, hk⟩ := h
  refine ⟨_, _, ?_, hk⟩
  let sl := (r.params.toList.zip args).foldl (fun t (p, v) => t.set p v) r.tmps.toList
  let Hb := hset H1 L (.loop { r1 with state := .busy })
  let ex : Run := fun c' l' H' => if c' = r.assign ∧ l' = sl ∧ H' = H then some (.normal, l1, H1) else if c' = r.body ∧ l' = l1 ∧ H' = Hb then some (e2, l2, H2) else none
  have hex : ∀ c l H e l' H', ex c l H = some (e, l', H') → Sim P c l H e l' H' := by
    intro c' l' H' e' l3 H3 hh
    simp only [ex] at hh
    split at hh
    · rename_i h1
      obtain ⟨rfl, rfl, rfl⟩ := h1
      injection hh with hh
      injection hh with h1 hh
      injection hh with h2 h3
      subst h1 h2 h3
      exact hs1
    · split at hh
      · rename_i h1
        obtain ⟨rfl, rfl, rfl⟩ := h1
        injection hh with hh
        injection hh with h1 hh
        injection hh with h2 h3
        subst h1 h2 h3
        exact hs2
      · cases hh
  have hbH : ¬ Hb = H := by
    intro hh
    have h1 : hget Hb L = some (.loop { r1 with state := .busy }) := hget_hset_same _ (hget_lt hg1)
    rw [hh, hg] at h1
    injection h1 with h1
    injection h1 with h1
    have h2 : r.state = .busy := by rw [h1]
    rw [hst] at h2
    cases h2
  have hc : roundD ex L args H = some (.bool (jumpOf e2).isNone, hset H2 L (.loop { r2 with state := if (jumpOf e2).isNone then .ready else .done, pending := jumpOf e2 })) := by
    unfold roundD
    rw [hg]
    simp only
    rw [if_pos ⟨hn, hst⟩]
    have h1 : ex r.assign sl H = some (.normal, l1, H1) := by simp [ex]
    have h2 : ex r.body l1 Hb = some (e2, l2, H2) := by
      simp only [ex]
      rw [if_neg (fun hh => hbH hh.2.2), if_pos ⟨trivial, trivial, trivial⟩]
    rw [show ex r.assign ((r.params.toList.zip args).foldl (fun t (p, v) => t.set p v) r.tmps.toList) H = some (.normal, l1, H1) from h1]
    simp only [hg1]
    rw [if_pos hst1]
    rw [show ex r.body l1 (hset H1 L (.loop { r1 with state := .busy })) = some (e2, l2, H2) from h2]
    simp only [hg2]
    cases e2 <;> rfl
  exact fun ρ w p args' k hr hp ha => round_ok hex hc hr hp ha k

/-! ### A loop's record beside what is ours -/
structure Lp (P : Program) (B : Base) (L : Nat) (r : Loop) (H : Heap) (os : List Ob) : Prop where
  st : St P B H os
  get : hget H L = some (.loop r)
  lo : B.H.length ≤ L
  ne : ∀ o ∈ os, blk o.v ≠ some L

theorem hget_hset {H : Heap} {A : Nat} {b c : Blk} (h : hget H A = some c) : hget (hset H A b) A = some b := hget_hset_same b (hget_lt h)

theorem Lp.enter {os : List Ob} (hS : St P B H os) (r : Loop) : Lp P B H.length r (H.cons (.loop r)) os where
  st := by
    have h1 : St P H (H.cons (.loop r)) [] := ⟨by rw [cons_eq]; exact Nat.le_succ _, fun B hB _ => hget_cons_old _ hB, by simp, by simp, .nil⟩
    simpa using hS.trans h1
  get := hget_cons_new H _
  lo := hS.len
  ne o ho hb := by
    have := (hS.own o ho).lt hb
    omega

theorem Lp.ext {L : Nat} {r : Loop} {H2 : Heap} {os os2 : List Ob} (h : Lp P B L r H os) (h2 : St P H H2 os2) : Lp P B L r H2 (os ++ os2) where
  st := h.st.trans h2
  get := by rw [h2.keep L (hget_lt h.get)]; exact h.get
  lo := h.lo
  ne o ho hb := by
    rcases List.mem_append.1 ho with ho | ho
    · exact h.ne o ho hb
    · have hl := hget_lt h.get
      rcases h2.new o ho L hb with h3 | h3
      · have h3 : H.length ≤ L := h3
        omega
      · exact h3

theorem Lp.sub {L : Nat} {r : Loop} {os os' : List Ob} (h : Lp P B L r H os) (hs : os'.Sublist os) : Lp P B L r H os' := ⟨h.st.sub hs, h.get, h.lo, fun o ho => h.ne o (hs.subset ho)⟩

theorem Lp.set {L : Nat} {r : Loop} {os : List Ob} (h : Lp P B L r H os) (hX : ¬ B.X L) (r' : Loop) : Lp P B L r' (hset H L (.loop r')) os where
  st := by
    refine ⟨by rw [length_hset]; exact h.st.len, ?_, ?_, h.st.new, h.st.sep⟩
    · intro A hA hXA
      rw [hget_hset_ne _ (by have := h.lo; omega)]
      exact h.st.old A hA hXA
    · intro o ho
      exact (h.st.own o ho).keep fun A hA => hget_hset_ne _ (fun hh => h.ne o ho (by rw [hA, hh]))
  get := hget_hset h.get
  lo := h.lo
  ne := h.ne

theorem Lp.body {L : Nat} {r : Loop} {H2 : Heap} {os os2 : List Ob} (h : Lp P B L r H os) (h2 : St P ⟨H, blksOf os⟩ H2 os2) : Lp P B L r H2 os2 where
  st := h.st.unbase h2
  get := by rw [h2.other (hget_lt h.get) h.ne]; exact h.get
  lo := h.lo
  ne o ho hb := by
    have hl := hget_lt h.get
    rcases h2.new o ho L hb with h3 | ⟨o', ho', hb'⟩
    · have h3 : H.length ≤ L := h3
      omega
    · exact h.ne o' ho' hb'

end
end Go.Ds
