/-
  Ds against the model: regions that draw their order.
-/
import Derived.Test.YtoanhpaipfgnfaaDsL
set_option linter.unusedVariables false
set_option linter.unusedSimpArgs false
namespace Go.Ds
section
variable {P : Program} {ρ : Rho} {H : Heap} {w : World}

/-! ### Equal values -/
theorem veq1_eq {a b : Value} (h : veq1 a b = true) : a = b := by
  cases a <;> cases b <;> simp only [veq1, Bool.and_eq_true, decide_eq_true_eq, beq_iff_eq, Bool.false_eq_true] at h <;> try rfl
  · rw [h]
  · rw [h.1, h.2]
  · rename_i x y
    cases x with | mk x => cases y with | mk y => cases x; cases y; simp only at h; rw [h]
  · rw [h]
  · rw [h.1.1, Nat.eq_of_beq_eq_true h.1.2, Nat.eq_of_beq_eq_true h.2]
  · rw [h]

theorem veqL_eq : ∀ {a b : List Value}, veqL a b = true → a = b
  | [], [], _ => rfl
  | a :: l, b :: m, h => by
    simp only [veqL, Bool.and_eq_true] at h
    rw [veq1_eq h.1, veqL_eq h.2]
  | [], _ :: _, h => by simp [veqL] at h
  | _ :: _, [], h => by simp [veqL] at h

theorem veq_eq {a b : Value} (h : veq a b = true) : a = b := by
  unfold veq at h
  split at h
  · rename_i x y
    cases x; cases y
    have := veqL_eq h
    simp only at this
    rw [this]
  · exact veq1_eq h

/-! ### The run in text order -/
def StepT (P : Program) (ops : Array Oper) (i : Nat) (s s' : List Value × Heap) (v : Value) : Prop :=
  ∃ o, ops[i]? = some o ∧ s'.1 = put s.1 o.dst v ∧
    ((Region.wanted o (yieldedD ops s.1) = true ∧ StepR P o s.1 s.2 v s'.2) ∨ (Region.wanted o (yieldedD ops s.1) = false ∧ v = undef ∧ s'.2 = s.2))

theorem opsT_spec {ex : Run} (hex : ∀ c l H e l' H', ex c l H = some (e, l', H') → Sim P c l H e l' H') {ops : Array Oper} : ∀ (is : List Nat) (l : List Value) (H : Heap) (tr : List (List Value × Heap × Value)) (l' : List Value) (H' : Heap), opsT P ex ops is l H = some (tr, l', H') →
    ∃ (T : Nat → List Value × Heap) (val : Nat → Value), T 0 = (l, H) ∧ T is.length = (l', H') ∧ tr.length = is.length ∧ (∀ k, k < is.length → tr[k]? = some ((T k).1, (T k).2, val k)) ∧
      ∀ k i, is[k]? = some i → StepT P ops i (T k) (T (k + 1)) (val k)
  | [], l, H, tr, l', H', h => by
    simp only [opsT, Option.some.injEq, Prod.mk.injEq] at h
    obtain ⟨rfl, rfl, rfl⟩ := h
    exact ⟨fun _ => (l, H), fun _ => undef, rfl, rfl, rfl, by simp, by simp⟩
  | i :: is, l, H, tr, l', H', h => by
    have key : ∀ (l1 : List Value) (H1 : Heap) (v : Value), (opsT P ex ops is l1 H1).map (fun (t, r) => ((l, H, v) :: t, r)) = some (tr, l', H') → StepT P ops i (l, H) (l1, H1) v →
        ∃ (T : Nat → List Value × Heap) (val : Nat → Value), T 0 = (l, H) ∧ T (i :: is).length = (l', H') ∧ tr.length = (i :: is).length ∧ (∀ k, k < (i :: is).length → tr[k]? = some ((T k).1, (T k).2, val k)) ∧
          ∀ k j, (i :: is)[k]? = some j → StepT P ops j (T k) (T (k + 1)) (val k) := by
      intro l1 H1 v hm hst
      rw [Option.map_eq_some_iff] at hm
      obtain ⟨⟨tr1, l2, H2⟩, ho, hq⟩ := hm
      simp only [Prod.mk.injEq] at hq
      obtain ⟨rfl, rfl, rfl⟩ := hq
      obtain ⟨T, val, h0, h1, h2, h3, h4⟩ := opsT_spec hex is _ _ _ _ _ ho
      refine ⟨fun k => match k with | 0 => (l, H) | k + 1 => T k, fun k => match k with | 0 => v | k + 1 => val k, rfl, h1, by simp [h2], ?_, ?_⟩
      · intro k hk
        cases k with
        | zero => rfl
        | succ k => simpa using h3 k (by simpa using hk)
      · intro k j hj
        cases k with
        | zero =>
          simp at hj
          subst hj
          simp only [h0]
          exact hst
        | succ k => exact h4 k j (by simpa using hj)
    unfold opsT at h
    split at h
    · cases h
    · rename_i o ho
      split at h
      · rename_i hw
        split at h
        · rename_i v H1 hs
          simp only [force_eq, forceS_eq, forceH_eq] at h
          exact key _ _ _ h ⟨o, ho, rfl, .inl ⟨hw, stepR_of hex hs⟩⟩
        · cases h
      · rename_i hw
        simp only [forceS_eq, forceH_eq] at h
        exact key _ _ _ h ⟨o, ho, rfl, .inr ⟨by simpa using hw, rfl, rfl⟩⟩

/-! ### What the text says of the order -/
def bef (ops : Array Oper) (j i : Nat) : Bool := ((befs [] ops.toList).getD j 0).testBit i

def Closed (ops : Array Oper) (S : Nat → Prop) : Prop := ∀ j o, S j → ops[j]? = some o → ∀ e ∈ o.after, Region.binds .any e = true → S e.on

structure Draw (ops : Array Oper) : Prop where
  back : ∀ (j : Nat) (o : Oper) (e : Edge), ops[j]? = some o → e ∈ o.after → Region.binds .any e = true → e.on < j
  guard : ∀ (j : Nat) (o : Oper), ops[j]? = some o → isAlloc o.op = true → o.guard = none
  pair : ∀ (i j : Nat) (x y : Oper), i < j → ops[i]? = some x → ops[j]? = some y → pairOk ops (befs [] ops.toList) i j x y = true

theorem mem_zipIdx {ops : Array Oper} {i : Nat} {o : Oper} (h : ops[i]? = some o) : (o, i) ∈ ops.toList.zipIdx := by
  rw [List.mem_zipIdx_iff_getElem?]
  simpa using h

theorem draw_of {ops : Array Oper} (h : orderOk ops = true) : Draw ops := by
  unfold orderOk at h
  simp only [List.all_eq_true, Bool.and_eq_true, Prod.forall, Bool.or_eq_true, Bool.not_eq_true', decide_eq_true_eq, decide_eq_false_iff_not, Array.mem_toList_iff] at h
  refine ⟨fun j o e ho he hb => ?_, fun j o ho ha => ?_, fun i j x y hij hx hy => ?_⟩
  · rcases (h o j (mem_zipIdx ho)).1.1 e he with h1 | h1
    · rw [hb] at h1; cases h1
    · exact h1
  · rcases (h o j (mem_zipIdx ho)).1.2 with h1 | h1
    · rw [ha] at h1; cases h1
    · simpa using h1
  · rcases (h y j (mem_zipIdx hy)).2 x i (mem_zipIdx hx) with h1 | h1
    · exact absurd hij h1
    · exact h1

section
variable {ops : Array Oper} (D : Draw ops)
include D
theorem Draw.ne {i j : Nat} {x y : Oper} (hij : i < j) (hx : ops[i]? = some x) (hy : ops[j]? = some y) {d : Tmp} (hd : x.dst = some d) : y.dst ≠ some d := by
  have := D.pair i j x y hij hx hy
  simp only [pairOk, hd, Bool.and_eq_true, bne_iff_ne, ne_eq] at this
  exact this.1.1.1.2

theorem Draw.raw {i j : Nat} {x y : Oper} (hij : i < j) (hx : ops[i]? = some x) (hy : ops[j]? = some y) {d : Tmp} (hd : x.dst = some d) (hl : d ∈ y.looksAt ops) : bef ops j i = true := by
  have := D.pair i j x y hij hx hy
  simp only [pairOk, hd, Bool.and_eq_true, Bool.or_eq_true, Bool.not_eq_true'] at this
  rcases this.1.1.1.1 with h | h
  · simp [hl] at h
  · exact h

theorem Draw.war {i j : Nat} {x y : Oper} (hij : i < j) (hx : ops[i]? = some x) (hy : ops[j]? = some y) {d : Tmp} (hd : y.dst = some d) (hl : d ∈ x.looksAt ops) : bef ops j i = true := by
  have := D.pair i j x y hij hx hy
  simp only [pairOk, hd, Bool.and_eq_true, Bool.or_eq_true, Bool.not_eq_true'] at this
  rcases this.1.2 with h | h
  · simp [hl] at h
  · exact h

theorem Draw.fresh {i j : Nat} {x y : Oper} (hij : i < j) (hx : ops[i]? = some x) (hy : ops[j]? = some y) {d : Tmp} (hd : x.dst = some d) (ha : isAlloc x.op = true) (hl : d ∈ y.looksAt ops) : isMain y.op = true := by
  have := D.pair i j x y hij hx hy
  simp only [pairOk, hd, Bool.and_eq_true, Bool.or_eq_true, Bool.not_eq_true', ha] at this
  rcases this.1.1.2 with (h | h) | h
  · cases h
  · exact h
  · simp [hl] at h

theorem Draw.main {i j : Nat} {x y : Oper} (hij : i < j) (hx : ops[i]? = some x) (hy : ops[j]? = some y) (he : isMain x.op = true ∨ isAlloc x.op = true) (hm : isMain y.op = true) : bef ops j i = true := by
  have := D.pair i j x y hij hx hy
  simp only [pairOk, Bool.and_eq_true, Bool.or_eq_true, Bool.not_eq_true', hm, Bool.or_eq_false_iff] at this
  rcases this.2 with (h | h) | h
  · rcases he with he | he
    · rw [he] at h; cases h.1
    · rw [he] at h; cases h.2
  · cases h
  · exact h
end

theorem befs_get : ∀ (os : List Oper) (acc : List Nat), ∃ r : List Nat, befs acc os = acc ++ r ∧ r.length = os.length ∧ ∀ (k : Nat) (o : Oper), os[k]? = some o →
    r[k]? = some (o.after.toList.foldl (fun m e => if Region.binds .any e then (m ||| 2 ^ e.on) ||| (acc ++ r.take k).getD e.on 0 else m) 0)
  | [], acc => ⟨[], by simp [befs], rfl, by simp⟩
  | o :: os, acc => by
    obtain ⟨r, h1, h2, h3⟩ := befs_get os (acc ++ [o.after.toList.foldl (fun m e => if Region.binds .any e then (m ||| 2 ^ e.on) ||| acc.getD e.on 0 else m) 0])
    refine ⟨o.after.toList.foldl (fun m e => if Region.binds .any e then (m ||| 2 ^ e.on) ||| acc.getD e.on 0 else m) 0 :: r, by rw [befs, h1]; exact List.append_assoc _ _ _, by rw [List.length_cons, List.length_cons, h2], fun k x hx => ?_⟩
    cases k with
    | zero =>
      rw [List.getElem?_cons_zero] at hx
      obtain rfl := Option.some.inj hx
      rw [List.getElem?_cons_zero, List.take_zero, List.append_nil]
    | succ k =>
      have := h3 k x (by rwa [List.getElem?_cons_succ] at hx)
      rw [List.getElem?_cons_succ, List.take_succ_cons]
      rw [List.append_assoc] at this
      exact this

theorem fold_bit {acc : List Nat} {i : Nat} : ∀ (es : List Edge) (m : Nat), (es.foldl (fun m e => if Region.binds .any e then (m ||| 2 ^ e.on) ||| acc.getD e.on 0 else m) m).testBit i = true →
    m.testBit i = true ∨ ∃ e ∈ es, Region.binds .any e = true ∧ (i = e.on ∨ (acc.getD e.on 0).testBit i = true)
  | [], m, h => .inl h
  | e :: es, m, h => by
    rw [List.foldl_cons] at h
    rcases fold_bit es _ h with h1 | ⟨e', he, hb, hh⟩
    · by_cases hb : Region.binds .any e = true
      · rw [if_pos hb, Nat.testBit_or, Nat.testBit_or, Nat.testBit_two_pow] at h1
        simp only [Bool.or_eq_true, decide_eq_true_eq] at h1
        rcases h1 with (h1 | h1) | h1
        · exact .inl h1
        · exact .inr ⟨e, by simp, hb, .inl h1.symm⟩
        · exact .inr ⟨e, by simp, hb, .inr h1⟩
      · rw [if_neg hb] at h1; exact .inl h1
    · exact .inr ⟨e', by simp [he], hb, hh⟩

/-- What comes ahead of an operation whose own edges are met has come. -/
theorem Draw.bef {ops : Array Oper} (D : Draw ops) {S : Nat → Prop} (hS : Closed ops S) : ∀ (j : Nat) (o : Oper), ops[j]? = some o → (∀ e ∈ o.after, Region.binds .any e = true → S e.on) → ∀ i, bef ops j i = true → S i := by
  intro j
  induction j using Nat.strongRecOn with
  | _ j ih =>
    intro o ho hr i hb
    obtain ⟨r, h1, h2, h3⟩ := befs_get ops.toList []
    simp only [List.nil_append] at h1 h3
    unfold Go.Ds.bef at hb
    rw [h1, List.getD_eq_getElem?_getD, h3 j o (by simpa using ho), Option.getD_some] at hb
    rcases fold_bit _ _ hb with h | ⟨e, he, hbind, hh⟩
    · simp at h
    · have he' : e ∈ o.after := by simpa using he
      have hlt := D.back j o e ho he' hbind
      have hSe := hr e he' hbind
      rcases hh with rfl | hh
      · exact hSe
      · have hj : j < ops.size := (Array.getElem?_eq_some_iff.1 ho).1
        have hoe : ops[e.on]? = some (ops[e.on]'(by omega)) := Array.getElem?_eq_some_iff.2 ⟨by omega, rfl⟩
        refine ih e.on hlt _ hoe (fun e' he' hb' => hS _ _ hSe hoe e' he' hb') i ?_
        unfold Go.Ds.bef
        rw [h1]
        rw [List.getD_eq_getElem?_getD, List.getElem?_take_of_lt hlt] at hh
        rw [List.getD_eq_getElem?_getD]
        exact hh

/-! ### Operations that do not ask memory -/
theorem pure_any (H2 : Heap) {o : Oper} {l : List Value} {v : Value} {H' : Heap} (hm : isMain o.op = false) (ha : isAlloc o.op = false) (hr : isRead o.op = false) (hd : opD P o l H = some (v, H')) :
    H' = H ∧ opD P o l H2 = some (v, H2) := by
  obtain ⟨dst, op, type, pos, after, guard⟩ := o
  have keep : ∀ {x : Option Value} {H' : Heap}, x.map (fun v => (v, H)) = some (v, H') → H' = H ∧ x = some v := by
    intro x H' h
    cases x with
    | none => cases h
    | some y => injection h with h; injection h with h1 h2; exact ⟨h2.symm, by rw [h1]⟩
  have plain : ∀ {H' : Heap}, plainD P ⟨dst, op, type, pos, after, guard⟩ l H = some (v, H') → H' = H ∧ plainD P ⟨dst, op, type, pos, after, guard⟩ l H2 = some (v, H2) := by
    intro H' h
    unfold plainD at h ⊢
    by_cases h1 : (Oper.op ⟨dst, op, type, pos, after, guard⟩).operands.toList.all (fun x => flat (ev l x)) = true
    · rw [if_pos h1] at h ⊢
      cases h2 : pureRun P (execOp (ev l) ⟨dst, op, type, pos, after, guard⟩) with
      | none => rw [h2] at h; cases h
      | some nx =>
        rw [h2] at h
        cases nx with
        | value v2 =>
          simp only at h ⊢
          by_cases h3 : flat v2 = true
          · rw [if_pos h3] at h ⊢; injection h with h; injection h with h4 h5; subst h4 h5; exact ⟨rfl, rfl⟩
          · rw [if_neg h3] at h; cases h
        | _ => cases h
    · rw [if_neg h1] at h; cases h
  cases op with
  | call c =>
    simp only [isMain, isRead] at hm hr
    split at hm
    · rename_i h1; simp [h1] at hr
    · rename_i h1; simp only [opD, h1] at hd ⊢; exact plain hd
    · rename_i h1; simp only [opD, h1] at hd ⊢; exact plain hd
    · cases hm
  | field t x f =>
    simp only [opD] at hd ⊢
    split at hd
    · rename_i h1; simp only [h1, if_true]; exact plain hd
    · rename_i h1
      simp only [h1]
      split at hd
      · rename_i cs h2
        simp only [Option.bind_eq_some_iff] at hd
        obtain ⟨fd, h3, hd⟩ := hd
        split at hd
        · rename_i h4
          simp only [Option.map_eq_some_iff] at hd
          obtain ⟨n, h5, hd⟩ := hd
          injection hd with h6 h7; subst h6 h7
          exact ⟨rfl, by simp only [h2, h3, Option.bind_some, h4, h5, Option.map_some, Bool.false_eq_true, if_false]⟩
        · rename_i h4
          simp only [Option.map_eq_some_iff] at hd
          obtain ⟨n, h5, hd⟩ := hd
          injection hd with h6 h7; subst h6 h7
          exact ⟨rfl, by simp only [h2, h3, Option.bind_some, h4, h5, Option.map_some, Bool.false_eq_true, if_false]⟩
        · cases hd
      · cases hd
  | slice t x lo hi mx =>
    cases mx with
    | some _ => simp only [opD] at hd; cases hd
    | none =>
      simp only [opD] at hd ⊢
      split at hd
      · rename_i h1; simp only [h1, if_true]; exact plain hd
      · rename_i h1
        obtain ⟨h2, h3⟩ := keep hd
        exact ⟨h2, by simp [h1, h3]⟩
  | fieldAddr s x f =>
    simp only [opD] at hd ⊢
    split at hd
    · rename_i A i e h1
      simp only [Option.bind_eq_some_iff] at hd
      obtain ⟨fd, h3, n, h4, hd⟩ := hd
      split at hd
      · cases hd
      · rename_i h5
        injection hd with hd; injection hd with h6 h7; subst h6 h7
        exact ⟨rfl, by simp only [h1, h3, h4, Option.bind_some]; rw [if_neg h5]⟩
    · cases hd
  | indexAddr t x ix =>
    simp only [opD] at hd ⊢
    split at hd
    all_goals first
      | cases hd; done
      | (rename_i h1 h2 h3
         simp only [Option.bind_eq_some_iff] at hd
         obtain ⟨n, h4, hd⟩ := hd
         split at hd
         · rename_i h5
           injection hd with hd; injection hd with h6 h7; subst h6 h7
           exact ⟨rfl, by simp only [h1, h2, h3, h4, Option.bind_some, h5, if_true]⟩
         · cases hd)
  | binOp bo t x y z =>
    simp only [opD] at hd ⊢
    split at hd
    · rename_i h2 h3
      split at hd
      · rename_i h4; injection hd with hd; injection hd with h6 h7; subst h6 h7; exact ⟨rfl, by first | rw [if_pos h4] | simp only [h2, h3, h4, if_true]⟩
      · cases hd
    · rename_i h2 h3
      split at hd
      · rename_i h4; injection hd with hd; injection hd with h6 h7; subst h6 h7; exact ⟨rfl, by first | rw [if_pos h4] | simp only [h2, h3, h4, if_true]⟩
      · cases hd
    · rename_i k a k' b h2 h3
      split at hd
      · rename_i h4
        rw [if_pos h4]
        split at hd
        · rename_i r h5; injection hd with hd; injection hd with h6 h7; subst h6 h7; exact ⟨rfl, by first | rfl | simp only [h5]⟩
        · rename_i h5; first | exact plain hd | (simp only [h5]; exact plain hd)
      · rename_i h4; rw [if_neg h4]; exact plain hd
    · first | exact plain hd | (simp only [*]; exact plain hd)
  | build t parts =>
    simp only [opD] at hd ⊢
    split at hd
    · rename_i h1
      simp only [Option.map_eq_some_iff] at hd
      obtain ⟨cs, h2, hd⟩ := hd
      injection hd with h6 h7; subst h6 h7
      exact ⟨rfl, by rw [if_pos h1, h2]; rfl⟩
    · cases hd
  | unOp uo t x =>
    simp only [opD] at hd ⊢
    split at hd
    · rename_i h1; injection hd with hd; injection hd with h6 h7; subst h6 h7; exact ⟨rfl, by simp only [h1]⟩
    · first | exact plain hd | (simp only [*]; exact plain hd)
  | convert _ _ _ => simp only [opD] at hd ⊢; exact plain hd
  | index _ _ _ => simp only [opD] at hd ⊢; exact plain hd
  | makeInterface _ _ => simp only [opD] at hd ⊢; exact plain hd
  | move x => simp only [opD] at hd ⊢; injection hd with hd; injection hd with h6 h7; subst h6 h7; exact ⟨rfl, by first | rfl | simp only [h1]⟩
  | assign x => simp only [opD] at hd ⊢; injection hd with hd; injection hd with h6 h7; subst h6 h7; exact ⟨rfl, by first | rfl | simp only [h1]⟩
  | pick c x y =>
    simp only [opD] at hd ⊢
    split at hd
    · rename_i h1; injection hd with hd; injection hd with h6 h7; subst h6 h7; exact ⟨rfl, by first | rfl | simp only [h1]⟩
    · cases hd
  | nilCheck x =>
    simp only [opD] at hd ⊢
    split at hd
    · rename_i h1; injection hd with hd; injection hd with h6 h7; subst h6 h7; exact ⟨rfl, by first | rfl | simp only [h1]⟩
    · rename_i h1; injection hd with hd; injection hd with h6 h7; subst h6 h7; exact ⟨rfl, by first | rfl | simp only [h1]⟩
    · cases hd
  | extract x i =>
    simp only [opD] at hd ⊢
    split at hd
    · obtain ⟨h2, h3⟩ := keep hd; exact ⟨h2, by first | (rw [h3]; rfl) | simp [*]⟩
    · cases hd
  | makeFunc fn first captured =>
    simp only [opD] at hd ⊢
    split at hd
    · split at hd
      · rename_i h1; injection hd with hd; injection hd with h6 h7; subst h6 h7; exact ⟨rfl, by rw [if_pos h1]⟩
      · cases hd
    · cases hd
  | alloc t => simp [isAlloc] at ha
  | load t x => simp [isRead] at hr
  | lookup a b c d => simp [isRead] at hr
  | _ => first | (simp only [opD] at hd; cases hd; done) | (simp [isMain] at hm; done)

theorem read_same {o : Oper} {l : List Value} {v : Value} {H' : Heap} (hr : isRead o.op = true) (hm : isMain o.op = false) (hd : opD P o l H = some (v, H')) : H' = H := by
  obtain ⟨dst, op, type, pos, after, guard⟩ := o
  have keep : ∀ {x : Option Value} {H' : Heap}, x.map (fun v => (v, H)) = some (v, H') → H' = H := by
    intro x H' h
    cases x with
    | none => cases h
    | some y => injection h with h; injection h with h1 h2; exact h2.symm
  cases op with
  | load t x => simp only [opD] at hd; exact keep hd
  | lookup a b c d => simp only [opD] at hd; cases hd
  | call c =>
    simp only [isRead] at hr
    split at hr
    · rename_i h1
      simp only [opD, h1] at hd
      split at hd
      · split at hd
        · exact keep hd
        · exact keep hd
        · exact keep hd
        · cases hd
      · cases hd
    · cases hr
  | _ => simp [isRead] at hr
end
end Go.Ds
