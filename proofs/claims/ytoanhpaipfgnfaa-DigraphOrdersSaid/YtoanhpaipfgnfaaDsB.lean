/-
  Ds against the model: how values, heaps and worlds correspond.
-/
import Derived.Test.YtoanhpaipfgnfaaDsA
import Derived.Laws.Cells
import Derived.Laws.CopyRow
import Derived.Laws.Append
import Derived.Laws.AppendOwn
set_option linter.unusedVariables false
set_option linter.unusedSimpArgs false
namespace Go.Ds

/-- Where an abstract row lies, seen from one extent: cell i is the cell i + d of block b, which has sz cells; k cells make an element. -/
structure Place where
  b : Nat
  d : Int
  sz : Nat
  k : Nat

def Place.at (p : Place) (i : Nat) : Nat := ((i : Int) + p.d).toNat

abbrev Rho := Nat → Nat → Option Place

def Rho.Le (ρ ρ' : Rho) : Prop := ∀ A e p, ρ A e = some p → ρ' A e = some p

theorem Rho.Le.refl (ρ : Rho) : ρ.Le ρ := fun _ _ _ h => h
theorem Rho.Le.trans {a b c : Rho} (h : a.Le b) (k : b.Le c) : a.Le c := fun _ _ _ e => k _ _ _ (h _ _ _ e)

def All2 {α β : Type} (R : α → β → Prop) : List α → List β → Prop
  | [], [] => True
  | a :: l, b :: m => R a b ∧ All2 R l m
  | _, _ => False

theorem All2.mono {α β : Type} {R S : α → β → Prop} (h : ∀ a b, R a b → S a b) : ∀ {l : List α} {m : List β}, All2 R l m → All2 S l m
  | [], [], _ => trivial
  | _ :: _, _ :: _, ⟨a, b⟩ => ⟨h _ _ a, b.mono h⟩
  | [], _ :: _, h => h.elim
  | _ :: _, [], h => h.elim

theorem All2.length {α β : Type} {R : α → β → Prop} : ∀ {l : List α} {m : List β}, All2 R l m → l.length = m.length
  | [], [], _ => rfl
  | _ :: _, _ :: _, ⟨_, b⟩ => by simp [b.length]
  | [], _ :: _, h => h.elim
  | _ :: _, [], h => h.elim

theorem All2.get {α β : Type} {R : α → β → Prop} : ∀ {l : List α} {m : List β}, All2 R l m → ∀ (i : Nat) (a : α), l[i]? = some a → ∃ b, m[i]? = some b ∧ R a b
  | [], [], _, i, a, h => by simp at h
  | x :: _, y :: _, ⟨r, _⟩, 0, a, h => by simp at h; subst h; exact ⟨y, by simp, r⟩
  | _ :: l, _ :: m, ⟨_, s⟩, i + 1, a, h => by simpa using s.get i a (by simpa using h)
  | [], _ :: _, h, _, _, _ => h.elim
  | _ :: _, [], h, _, _, _ => h.elim

theorem All2.of_get {α β : Type} {R : α → β → Prop} : ∀ {l : List α} {m : List β}, l.length = m.length → (∀ (i : Nat) (a : α), l[i]? = some a → ∃ b, m[i]? = some b ∧ R a b) → All2 R l m
  | [], [], _, _ => trivial
  | x :: l, y :: m, e, h => ⟨by obtain ⟨b, hb, r⟩ := h 0 x (by simp); simp at hb; subst hb; exact r,
      All2.of_get (by simpa using e) (fun i a hi => by simpa using h (i + 1) a (by simpa using hi))⟩
  | [], _ :: _, e, _ => by simp at e
  | _ :: _, [], e, _ => by simp at e

theorem All2.append {α β : Type} {R : α → β → Prop} : ∀ {l : List α} {m : List β} {l' : List α} {m' : List β}, All2 R l m → All2 R l' m' → All2 R (l ++ l') (m ++ m')
  | [], [], _, _, _, k => k
  | _ :: _, _ :: _, _, _, ⟨a, b⟩, k => ⟨a, b.append k⟩
  | [], _ :: _, _, _, h, _ => h.elim
  | _ :: _, [], _, _, h, _ => h.elim

theorem All2.same {α : Type} {R : α → α → Prop} : ∀ {l : List α}, (∀ a ∈ l, R a a) → All2 R l l
  | [], _ => trivial
  | a :: _, h => ⟨h a (by simp), All2.same fun b hb => h b (by simp [hb])⟩

theorem All2.map {α β γ δ : Type} {R : γ → δ → Prop} (f : α → γ) (g : β → δ) : ∀ {l : List α} {m : List β}, All2 (fun a b => R (f a) (g b)) l m → All2 R (l.map f) (m.map g)
  | [], [], _ => trivial
  | _ :: _, _ :: _, ⟨a, b⟩ => ⟨a, b.map f g⟩
  | [], _ :: _, h => h.elim
  | _ :: _, [], h => h.elim

theorem All2.set {α β : Type} {R : α → β → Prop} {a : α} {b : β} (r : R a b) : ∀ {l : List α} {m : List β} (k : Nat), All2 R l m → All2 R (l.set k a) (m.set k b)
  | [], [], _, _ => trivial
  | _ :: _, _ :: _, 0, ⟨_, s⟩ => ⟨r, s⟩
  | _ :: _, _ :: _, k + 1, ⟨q, s⟩ => ⟨q, s.set r k⟩
  | [], _ :: _, _, h => h.elim
  | _ :: _, [], _, h => h.elim

/-- Values of one cell that hold no function. -/
inductive C0 (ρ : Rho) : Value → Value → Prop
  | flat {v : Value} (h : scalar v = true) : C0 ρ v v
  | ptr {A i e : Nat} {p : Place} (h : ρ A e = some p) (h0 : 0 ≤ (i : Int) + p.d) : C0 ρ (.pointer (some ⟨A, i, some e⟩)) (.pointer (some ⟨p.b, p.at i, none⟩))
  | slice {A i e n c' : Nat} {p : Place} {a : Addr} (h : ρ A e = some p) (h0 : 0 ≤ (i : Int) + p.d) (hn : i + n * p.k ≤ e) (hc : n ≤ c') (hs : (a = ⟨p.b, p.at i, none⟩ ∧ p.at i + c' * p.k ≤ p.sz) ∨ (n = 0 ∧ c' = 0)) :
      C0 ρ (.slice (some ⟨A, i, some e⟩) n p.k) (.slice (some a) n c')
  | map {A : Nat} {p : Place} (h : ρ A 0 = some p) : C0 ρ (.map (some A)) (.map (some p.b))

/-- Values of one cell. -/
inductive C1 (ρ : Rho) : Value → Value → Prop
  | c0 {v v' : Value} (h : C0 ρ v v') : C1 ρ v v'
  | fn {f : FuncId} {a b a' b' : Array Value} (ha : All2 (C0 ρ) a.toList a'.toList) (hb : All2 (C0 ρ) b.toList b'.toList) : C1 ρ (.func (.func f) a b) (.func (.func f) a' b')
  | yld {L : Nat} {p : Place} (h : ρ L 0 = some p) : C1 ρ (.func (.yield L) #[] #[]) (.func (.yield p.b) #[] #[])

inductive V1 (ρ : Rho) : Value → Value → Prop
  | c1 {v v' : Value} (h : C1 ρ v v') : V1 ρ v v'
  | agg {a a' : Array Value} (h : All2 (C1 ρ) a.toList a'.toList) : V1 ρ (.agg a) (.agg a')

inductive V (ρ : Rho) : Value → Value → Prop
  | v1 {v v' : Value} (h : V1 ρ v v') : V ρ v v'
  | tuple {a a' : Array Value} (h : All2 (V1 ρ) a.toList a'.toList) : V ρ (.tuple a) (.tuple a')

section
variable {ρ ρ' : Rho}
theorem C0.mono (hl : ρ.Le ρ') {v v' : Value} (h : C0 ρ v v') : C0 ρ' v v' := by
  cases h with
  | flat h => exact .flat h
  | ptr h h0 => exact .ptr (hl _ _ _ h) h0
  | slice h h0 hn hc hs => exact .slice (hl _ _ _ h) h0 hn hc hs
  | map h => exact .map (hl _ _ _ h)

theorem C1.mono (hl : ρ.Le ρ') {v v' : Value} (h : C1 ρ v v') : C1 ρ' v v' := by
  cases h with
  | c0 h => exact .c0 (h.mono hl)
  | fn ha hb => exact .fn (ha.mono fun _ _ h => h.mono hl) (hb.mono fun _ _ h => h.mono hl)
  | yld h => exact .yld (hl _ _ _ h)

theorem V1.mono (hl : ρ.Le ρ') {v v' : Value} (h : V1 ρ v v') : V1 ρ' v v' := by
  cases h with
  | c1 h => exact .c1 (h.mono hl)
  | agg h => exact .agg (h.mono fun _ _ h => h.mono hl)

theorem V.mono (hl : ρ.Le ρ') {v v' : Value} (h : V ρ v v') : V ρ' v v' := by
  cases h with
  | v1 h => exact .v1 (h.mono hl)
  | tuple h => exact .tuple (h.mono fun _ _ h => h.mono hl)
end

/-! ### Values without an address correspond to themselves alone -/
theorem C0.eq_of_scalar {ρ : Rho} {v v' : Value} (h : C0 ρ v v') (hs : scalar v = true) : v' = v := by
  cases h with
  | flat _ => rfl
  | ptr _ _ => simp [scalar] at hs
  | slice _ _ _ _ _ => simp [scalar] at hs
  | map _ => simp [scalar] at hs

theorem C1.eq_of_scalar {ρ : Rho} {v v' : Value} (h : C1 ρ v v') (hs : scalar v = true) : v' = v := by
  cases h with
  | c0 h => exact h.eq_of_scalar hs
  | fn _ _ => simp [scalar] at hs
  | yld _ => simp [scalar] at hs

theorem All2.eq_of_scalars {ρ : Rho} : ∀ {l m : List Value}, All2 (C1 ρ) l m → scalars l = true → m = l
  | [], [], _, _ => rfl
  | a :: l, b :: m, ⟨r, s⟩, h => by
    simp only [scalars, List.all_cons, Bool.and_eq_true] at h
    rw [r.eq_of_scalar h.1, s.eq_of_scalars (by simpa [scalars] using h.2)]
  | [], _ :: _, h, _ => h.elim
  | _ :: _, [], h, _ => h.elim

theorem V1.eq_of_flat {ρ : Rho} {v v' : Value} (h : V1 ρ v v') (hs : flat1 v = true) : v' = v := by
  cases h with
  | c1 h => cases v <;> first | exact h.eq_of_scalar hs | (cases h with | c0 h => cases h with | flat h => simp [scalar] at h)
  | agg h => have := h.eq_of_scalars hs; exact congrArg Value.agg (Array.ext' this)

theorem V.eq_of_flat {ρ : Rho} {v v' : Value} (h : V ρ v v') (hs : flat v = true) : v' = v := by
  cases h with
  | v1 h =>
    refine h.eq_of_flat ?_
    cases v <;> first | exact hs | (cases h with | c1 h => cases h with | c0 h => cases h with | flat h => simp [scalar] at h)
  | tuple h =>
    rename_i a a'
    have key : ∀ {l m : List Value}, All2 (V1 ρ) l m → l.all flat1 = true → m = l := by
      intro l
      induction l with
      | nil => intro m h _; cases m with | nil => rfl | cons => exact h.elim
      | cons x l ih =>
        intro m h hs
        cases m with
        | nil => exact h.elim
        | cons y m =>
          simp only [List.all_cons, Bool.and_eq_true] at hs
          rw [h.1.eq_of_flat hs.1, ih h.2 hs.2]
    exact congrArg Value.tuple (Array.ext' (key h hs))

theorem C1.of_scalar {ρ : Rho} {v : Value} (h : scalar v = true) : C1 ρ v v := .c0 (.flat h)

theorem All2.of_scalars {ρ : Rho} {l : List Value} (h : scalars l = true) : All2 (C1 ρ) l l :=
  All2.same fun a ha => .of_scalar (by simp only [scalars, List.all_eq_true] at h; exact h a ha)

theorem V1.of_flat {ρ : Rho} {v : Value} (hs : flat1 v = true) : V1 ρ v v := by
  cases v <;> first | exact .agg (.of_scalars hs) | exact .c1 (.of_scalar hs)

theorem V.of_flat {ρ : Rho} {v : Value} (hs : flat v = true) : V ρ v v := by
  cases v <;> first
    | exact .v1 (.agg (.of_scalars hs))
    | exact .v1 (.c1 (.of_scalar hs))
    | (refine .tuple (All2.same fun a ha => V1.of_flat ?_)
       simp only [flat, List.all_eq_true] at hs
       exact hs a ha)

theorem V.undef {ρ : Rho} : V ρ undef undef := .of_flat rfl

/-- The cells of related values. -/
theorem V.cells {ρ : Rho} {v v' : Value} (h : V ρ v v') (h1 : v.cells.toList.all oneCell = true) : All2 (C1 ρ) v.cells.toList v'.cells.toList := by
  cases h with
  | v1 h => cases h with
    | agg h => exact h
    | c1 h =>
      have : v.cells.toList = [v] ∧ v'.cells.toList = [v'] := by
        cases h with
        | c0 h => cases h with
          | flat h => cases v <;> first | exact ⟨rfl, rfl⟩ | simp [scalar] at h
          | _ => exact ⟨rfl, rfl⟩
        | _ => exact ⟨rfl, rfl⟩
      rw [this.1, this.2]
      exact ⟨h, trivial⟩
  | tuple h => simp [Value.cells, oneCell] at h1

theorem C1.oneCell {ρ : Rho} {v v' : Value} (h : C1 ρ v v') : v'.oneCell' = true := by
  cases h with
  | c0 h => cases h with
    | flat h => cases v <;> first | rfl | simp [scalar] at h
    | _ => rfl
  | _ => rfl

theorem All2.oneCells {ρ : Rho} : ∀ {l m : List Value}, All2 (C1 ρ) l m → ∀ v ∈ m, v.oneCell' = true
  | [], [], _, _, h => by simp at h
  | _ :: _, _ :: _, ⟨r, s⟩, v, h => by
    simp only [List.mem_cons] at h
    rcases h with rfl | h
    · exact r.oneCell
    · exact s.oneCells v h
  | [], _ :: _, h, _, _ => h.elim
  | _ :: _, [], h, _, _ => h.elim

/-! ### The heap's own words -/
theorem setK_eq {α β : Type} (x : α) : ∀ (l : List α) (k : Nat) (K : List α → β), setK x l k K = K (l.set k x)
  | [], _, _ => rfl
  | _ :: _, 0, _ => rfl
  | b :: t, k + 1, K => by
    show setK x t k (fun t => K (b :: t)) = _
    rw [setK_eq x t k]; rfl

theorem setL_eq {α : Type} (l : List α) (k : Nat) (x : α) : setL l k x = l.set k x := setK_eq x l k _

theorem appK_eq {α β : Type} (m : List α) : ∀ (l : List α) (K : List α → β), appK m l K = K (l ++ m)
  | [], _ => rfl
  | b :: t, K => by
    show appK m t (fun t => K (b :: t)) = _
    rw [appK_eq m t]; rfl

theorem appL_eq {α : Type} (l m : List α) : appL l m = l ++ m := appK_eq m l _

theorem get_eq : ∀ (l : List Value) (t : Tmp), get l t = l.getD t undef
  | [], _ => rfl
  | _ :: _, 0 => rfl
  | _ :: l, t + 1 => by
    show get l t = _
    rw [get_eq l t]; rfl

theorem trSet_eq {α : Type} (b : Blk) : ∀ (t : Tr) (k : Nat) (K : Tr → α), trSet b t k K = K (trSet b t k fun t => t)
  | .e, _, _ => rfl
  | .n _ _ _, 0, _ => rfl
  | .n c l r, k + 1, K => by
    cases h : Nat.beq (Nat.mod k 2) 0 with
    | true =>
      have h1 : ∀ {α : Type} (K : Tr → α), trSet b (.n c l r) (k + 1) K = trSet b l (Nat.div k 2) fun l => K (.n c l r) := fun K => by
        show Bool.rec (motive := fun _ => _) _ _ (Nat.beq (Nat.mod k 2) 0) = _
        rw [h]; rfl
      rw [h1, h1, trSet_eq b l (Nat.div k 2), trSet_eq b l (Nat.div k 2) fun l => Tr.n c l r]
    | false =>
      have h1 : ∀ {α : Type} (K : Tr → α), trSet b (.n c l r) (k + 1) K = trSet b r (Nat.div k 2) fun r => K (.n c l r) := fun K => by
        show Bool.rec (motive := fun _ => _) _ _ (Nat.beq (Nat.mod k 2) 0) = _
        rw [h]; rfl
      rw [h1, h1, trSet_eq b r (Nat.div k 2), trSet_eq b r (Nat.div k 2) fun r => Tr.n c l r]

theorem trGet_succ (c : Option Blk) (l r : Tr) (k : Nat) : trGet (.n c l r) (k + 1) = if k % 2 = 0 then trGet l (k / 2) else trGet r (k / 2) := by
  show Bool.rec (motive := fun _ => _) (trGet r (k / 2)) (trGet l (k / 2)) (Nat.beq (k % 2) 0) = _
  by_cases h : k % 2 = 0
  · rw [if_pos h, h]; rfl
  · rw [if_neg h]
    have : Nat.beq (k % 2) 0 = false := Bool.eq_false_iff.2 fun e => h (Nat.eq_of_beq_eq_true e)
    rw [this]

theorem trGet_new (b : Blk) : ∀ (f k : Nat), k ≤ f → ∀ j, trGet (trNew b f k) j = if j = k then some b else none
  | 0, k, hk, j => by
    obtain rfl : k = 0 := by omega
    cases j with
    | zero => rfl
    | succ j => show trGet (.n (some b) .e .e) (j + 1) = _; rw [trGet_succ]; simp; rfl
  | f + 1, 0, _, j => by
    cases j with
    | zero => rfl
    | succ j => show trGet (.n (some b) .e .e) (j + 1) = _; rw [trGet_succ]; simp; rfl
  | f + 1, k + 1, hk, j => by
    have ih := trGet_new b f (k / 2) (by omega)
    cases h : Nat.beq (Nat.mod k 2) 0 with
    | true =>
      have h1 : trNew b (f + 1) (k + 1) = .n none (trNew b f (k / 2)) .e := by
        show Bool.rec (motive := fun _ => Tr) _ _ (Nat.beq (Nat.mod k 2) 0) = _
        rw [h]; rfl
      have h2 : k % 2 = 0 := Nat.eq_of_beq_eq_true h
      rw [h1]
      cases j with
      | zero => simp; rfl
      | succ j =>
        rw [trGet_succ, ih]
        by_cases hj : j % 2 = 0
        · rw [if_pos hj]
          by_cases he : j / 2 = k / 2
          · rw [if_pos he, if_pos (by omega)]
          · rw [if_neg he, if_neg (by omega)]
        · rw [if_neg hj, if_neg (by omega)]; rfl
    | false =>
      have h1 : trNew b (f + 1) (k + 1) = .n none .e (trNew b f (k / 2)) := by
        show Bool.rec (motive := fun _ => Tr) _ _ (Nat.beq (Nat.mod k 2) 0) = _
        rw [h]; rfl
      have h2 : ¬ k % 2 = 0 := fun e => by
        have : Nat.beq (Nat.mod k 2) 0 = true := by show Nat.beq (k % 2) 0 = true; rw [e]; rfl
        rw [h] at this; cases this
      rw [h1]
      cases j with
      | zero => simp; rfl
      | succ j =>
        rw [trGet_succ, ih]
        by_cases hj : j % 2 = 0
        · rw [if_pos hj, if_neg (by omega)]; rfl
        · rw [if_neg hj]
          by_cases he : j / 2 = k / 2
          · rw [if_pos he, if_pos (by omega)]
          · rw [if_neg he, if_neg (by omega)]

theorem trGet_set (b : Blk) : ∀ (t : Tr) (k j : Nat), trGet (trSet b t k fun t => t) j = if j = k then some b else trGet t j
  | .e, k, j => by
    show trGet (trNew b k k) j = _
    rw [trGet_new b k k (Nat.le_refl _)]; rfl
  | .n c l r, 0, j => by
    show trGet (.n (some b) l r) j = _
    cases j with
    | zero => rfl
    | succ j => rw [trGet_succ, trGet_succ, if_neg (by omega : ¬ j + 1 = 0)]
  | .n c l r, k + 1, j => by
    cases h : Nat.beq (Nat.mod k 2) 0 with
    | true =>
      have h1 : trSet b (.n c l r) (k + 1) (fun t => t) = .n c (trSet b l (k / 2) fun t => t) r := by
        show Bool.rec (motive := fun _ => Tr) _ (trSet b l (k / 2) fun l => .n c l r) (Nat.beq (Nat.mod k 2) 0) = _
        rw [h]; exact trSet_eq b l _ _
      have h2 : k % 2 = 0 := Nat.eq_of_beq_eq_true h
      rw [h1]
      cases j with
      | zero => rw [if_neg (by omega)]; rfl
      | succ j =>
        rw [trGet_succ, trGet_succ, trGet_set b l]
        by_cases hj : j % 2 = 0
        · rw [if_pos hj, if_pos hj]
          by_cases he : j / 2 = k / 2
          · rw [if_pos he, if_pos (by omega)]
          · rw [if_neg he, if_neg (by omega)]
        · rw [if_neg hj, if_neg hj, if_neg (by omega)]
    | false =>
      have h1 : trSet b (.n c l r) (k + 1) (fun t => t) = .n c l (trSet b r (k / 2) fun t => t) := by
        show Bool.rec (motive := fun _ => Tr) (trSet b r (k / 2) fun r => .n c l r) _ (Nat.beq (Nat.mod k 2) 0) = _
        rw [h]; exact trSet_eq b r _ _
      have h2 : ¬ k % 2 = 0 := fun e => by
        have : Nat.beq (Nat.mod k 2) 0 = true := by show Nat.beq (k % 2) 0 = true; rw [e]; rfl
        rw [h] at this; cases this
      rw [h1]
      cases j with
      | zero => rw [if_neg (by omega)]; rfl
      | succ j =>
        rw [trGet_succ, trGet_succ, trGet_set b r]
        by_cases hj : j % 2 = 0
        · rw [if_pos hj, if_pos hj, if_neg (by omega)]
        · rw [if_neg hj, if_neg hj]
          by_cases he : j / 2 = k / 2
          · rw [if_pos he, if_pos (by omega)]
          · rw [if_neg he, if_neg (by omega)]

theorem forceN_eq {α : Type} (n : Nat) (K : Nat → α) : forceN n K = K n := by cases n <;> rfl
theorem forceI_eq {α : Type} (n : Int) (K : Int → α) : forceI n K = K n := by cases n <;> simp [forceI, forceN_eq]
theorem forceB_eq {α : Type} (b : Bool) (K : Bool → α) : forceB b K = K b := by cases b <;> rfl
theorem forceO_eq {α : Type} (n : Option Nat) (K : Option Nat → α) : forceO n K = K n := by cases n <;> simp [forceO, forceN_eq]
theorem forceA_eq {α : Type} (a : Option Addr) (K : Option Addr → α) : forceA a K = K a := by
  cases a with
  | none => rfl
  | some a => cases a; simp [forceA, forceN_eq, forceO_eq]
theorem force1_eq {α : Type} (v : Value) (K : Value → α) : force1 v K = K v := by
  cases v <;> simp [force1, forceI_eq, forceB_eq, forceA_eq, forceN_eq, forceO_eq]
theorem forceL_eq {α β : Type} (f : β → (β → α) → α) (hf : ∀ b K, f b K = K b) : ∀ (l : List β) (K : List β → α), forceL f l K = K l
  | [], _ => rfl
  | b :: l, K => by
    show f b (fun v => forceL f l fun l => K (v :: l)) = _
    rw [hf, forceL_eq f hf l]
theorem force2_eq {α : Type} (v : Value) (K : Value → α) : force2 v K = K v := by
  cases v with
  | agg cs => cases cs; simp [force2, forceL_eq _ force1_eq]
  | func fn a b => cases a; cases b; simp [force2, forceL_eq _ force1_eq]
  | _ => simp only [force2, force1_eq]
theorem force_eq {α : Type} (v : Value) (K : Value → α) : force v K = K v := by
  cases v with
  | tuple cs => cases cs; simp [force, forceL_eq _ force2_eq]
  | _ => simp only [force, force2_eq]
theorem forceS_eq {α β : Type} (l : List β) (K : List β → α) : forceS l K = K l := by cases l <;> rfl
theorem forceBlk_eq {α : Type} (b : Blk) (K : Blk → α) : forceBlk b K = K b := by
  cases b <;> simp [forceBlk, forceL_eq _ force2_eq, forceB_eq, forceN_eq]

theorem forceH_eq {α : Type} (H : Heap) (K : Heap → α) : forceH H K = K H := by cases H; exact forceN_eq _ fun n => K ⟨n, _⟩

theorem hget_eq (H : Heap) (A : Nat) : hget H A = if A < H.length then trGet H.tr A else none := by
  unfold hget
  by_cases h : A < H.length
  · rw [if_pos h]; have : Nat.blt A H.length = true := by simpa [Nat.blt_eq] using h
    rw [this]
  · rw [if_neg h]; have : Nat.blt A H.length = false := Bool.eq_false_iff.2 (fun e => h (by simpa [Nat.blt_eq] using e))
    rw [this]

theorem hget_lt {H : Heap} {A : Nat} {b : Blk} (h : hget H A = some b) : A < H.length := by
  rw [hget_eq] at h; split at h <;> simp_all

theorem cons_eq (H : Heap) (b : Blk) : H.cons b = ⟨H.length + 1, trSet b H.tr H.length fun t => t⟩ := trSet_eq b _ _ _

@[simp] theorem length_cons (H : Heap) (b : Blk) : (H.cons b).length = H.length + 1 := by rw [cons_eq]

theorem hget_cons_old {H : Heap} {A : Nat} (b : Blk) (h : A < H.length) : hget (H.cons b) A = hget H A := by
  rw [hget_eq, hget_eq, if_pos h, if_pos (by simp; omega), cons_eq]
  show trGet (trSet b H.tr H.length fun t => t) A = _
  rw [trGet_set, if_neg (by omega)]

theorem hget_cons_new (H : Heap) (b : Blk) : hget (H.cons b) H.length = some b := by
  rw [hget_eq, if_pos (by simp), cons_eq]
  show trGet (trSet b H.tr H.length fun t => t) H.length = _
  rw [trGet_set, if_pos rfl]

theorem hget_none {H : Heap} {A : Nat} (h : H.length ≤ A) : hget H A = none := by rw [hget_eq, if_neg (by omega)]

theorem hset_eq (H : Heap) (A : Nat) (b : Blk) : hset H A b = if A < H.length then ⟨H.length, trSet b H.tr A fun t => t⟩ else H := by
  unfold hset
  by_cases h : A < H.length
  · rw [if_pos h]; have : Nat.blt A H.length = true := by simpa [Nat.blt_eq] using h
    rw [this]; simp only [forceBlk_eq]; exact trSet_eq b _ _ _
  · rw [if_neg h]; have : Nat.blt A H.length = false := Bool.eq_false_iff.2 (fun e => h (by simpa [Nat.blt_eq] using e))
    rw [this]

theorem length_hset (H : Heap) (A : Nat) (b : Blk) : (hset H A b).length = H.length := by rw [hset_eq]; split <;> rfl

theorem hget_hset_same {H : Heap} {A : Nat} (b : Blk) (h : A < H.length) : hget (hset H A b) A = some b := by
  rw [hget_eq, length_hset, if_pos h, hset_eq, if_pos h]
  show trGet (trSet b H.tr A fun t => t) A = _
  rw [trGet_set, if_pos rfl]

theorem hget_hset_ne {H : Heap} {A B : Nat} (b : Blk) (h : A ≠ B) : hget (hset H A b) B = hget H B := by
  rw [hget_eq, hget_eq, length_hset, hset_eq]
  by_cases hB : B < H.length
  · simp only [hB, if_true]
    by_cases hA : A < H.length
    · rw [if_pos hA]
      show trGet (trSet b H.tr A fun t => t) B = _
      rw [trGet_set, if_neg (Ne.symm h)]
    · rw [if_neg hA]
  · simp [hB]

theorem trSet_self (b : Blk) : ∀ (t : Tr) (k : Nat), trGet t k = some b → (trSet b t k fun t => t) = t
  | .e, _, h => by cases h
  | .n c l r, 0, h => by
    have h : c = some b := h
    show Tr.n (some b) l r = _
    rw [h]
  | .n c l r, k + 1, h => by
    rw [trGet_succ] at h
    cases h1 : Nat.beq (Nat.mod k 2) 0 with
    | true =>
      have h2 : k % 2 = 0 := Nat.eq_of_beq_eq_true h1
      rw [if_pos h2] at h
      show Bool.rec (motive := fun _ => Tr) _ (trSet b l (k / 2) fun l => .n c l r) (Nat.beq (Nat.mod k 2) 0) = _
      rw [h1]
      show (trSet b l (k / 2) fun l => Tr.n c l r) = Tr.n c l r
      rw [trSet_eq, trSet_self b l _ h]
    | false =>
      have h2 : ¬ k % 2 = 0 := fun e => by
        have : Nat.beq (Nat.mod k 2) 0 = true := by show Nat.beq (k % 2) 0 = true; rw [e]; rfl
        rw [h1] at this; cases this
      rw [if_neg h2] at h
      show Bool.rec (motive := fun _ => Tr) (trSet b r (k / 2) fun r => .n c l r) _ (Nat.beq (Nat.mod k 2) 0) = _
      rw [h1]
      show (trSet b r (k / 2) fun r => Tr.n c l r) = Tr.n c l r
      rw [trSet_eq, trSet_self b r _ h]

theorem hset_self {H : Heap} {A : Nat} {b : Blk} (h : hget H A = some b) : hset H A b = H := by
  have hlt := hget_lt h
  rw [hset_eq, if_pos hlt]
  rw [hget_eq, if_pos hlt] at h
  rw [trSet_self b _ _ h]

theorem rowD_eq (H : Heap) (ty : TypeId) (cs : List Value) : rowD H ty cs = H.cons (.cells cs ty true cs.length 0) := by simp [rowD, forceBlk_eq]

/-! ### Heaps -/
def Blk.wr : Blk → Bool
  | .cells _ _ rw _ _ => rw
  | _ => true

def Blk.isCells : Blk → Bool
  | .cells .. => true
  | _ => false

/-- A concrete block that an abstract block that may be written stands for. -/
def Wr (ρ : Rho) (H : Heap) (b : Nat) : Prop := ∃ A e p blk, ρ A e = some p ∧ p.b = b ∧ hget H A = some blk ∧ blk.wr = true

/-- No abstract block stands for this concrete one. -/
def Off (ρ : Rho) (b : Nat) : Prop := ∀ A e p, ρ A e = some p → p.b ≠ b

structure CellsAt (P : Program) (ρ : Rho) (w : World) (cs : List Value) (ty : TypeId) (rw : Bool) (lo e : Nat) (p : Place) : Prop where
  le : e ≤ cs.length
  k : sizeP P ty = some p.k
  fits : (e : Int) + p.d ≤ p.sz
  row : ∃ cur ty' fr, w.heap[p.b]? = some (.cells cur ty' fr) ∧ cur.size = p.sz ∧ (rw = true → fr = (0, 0)) ∧
    (lo ≤ e → ∀ i c, i < e → 0 ≤ (i : Int) + p.d → cs[i]? = some c → ∃ c', cur[p.at i]? = some c' ∧ C1 ρ c c')

structure EntryRel (ρ : Rho) (a b : MapEntry) : Prop where
  key : b.key = a.key
  flat : flat a.key = true
  val : V ρ a.val b.val
  born : b.born = a.born

structure LoopRel (ρ : Rho) (a b : Loop) : Prop where
  state : b.state = a.state
  pending : b.pending = a.pending
  tmps : All2 (V ρ) a.tmps.toList b.tmps.toList
  params : b.params = a.params
  assign : b.assign = a.assign
  body : b.body = a.body

structure HRel (P : Program) (ρ : Rho) (H : Heap) (w : World) : Prop where
  dom : ∀ A e p, ρ A e = some p → A < H.length ∧ p.b < w.heap.size
  cells : ∀ A cs ty rw lo ver, hget H A = some (.cells cs ty rw lo ver) → (∃ p, ρ A cs.length = some p) ∧ ∀ e p, ρ A e = some p → CellsAt P ρ w cs ty rw lo e p
  map : ∀ A es ck ver, hget H A = some (.map es ck ver) → ∃ p es', ρ A 0 = some p ∧ w.heap[p.b]? = some (.map es' ck) ∧ All2 (EntryRel ρ) es es'.toList
  loop : ∀ A r, hget H A = some (.loop r) → ∃ p r', ρ A 0 = some p ∧ w.heap[p.b]? = some (.loop r') ∧ LoopRel ρ r r'
  one : ∀ A e p blk, ρ A e = some p → hget H A = some blk → (blk.isCells = true ∨ e = 0)
  excl : ∀ A e p A2 e2 p2 blk, ρ A e = some p → ρ A2 e2 = some p2 → p.b = p2.b → hget H A = some blk → blk.wr = true → A2 = A ∧ p2.d = p.d
  full : ∀ A, A < H.length → (hget H A).isSome = true

/-- What a piece of a run leaves. -/
structure Post (P : Program) (ρ : Rho) (H : Heap) (w : World) (ρ' : Rho) (H' : Heap) (w' : World) : Prop where
  le : ρ.Le ρ'
  rel : HRel P ρ' H' w'
  len : H.length ≤ H'.length
  size : w.heap.size ≤ w'.heap.size
  os : w'.os = w.os
  tape : w'.tape = w.tape
  output : w'.output = w.output
  frame : ∀ b, b < w.heap.size → ¬ Wr ρ H b → w'.heap[b]? = w.heap[b]? ∧ ¬ Wr ρ' H' b
  loops : ∀ (b : Nat) (r : Loop), w.heap[b]? = some (Obj.loop r) → ∃ r', w'.heap[b]? = some (Obj.loop r')
  img : ∀ b, b < w.heap.size → Off ρ b → Off ρ' b

theorem Post.refl {P : Program} {ρ : Rho} {H : Heap} {w : World} (h : HRel P ρ H w) : Post P ρ H w ρ H w :=
  ⟨.refl ρ, h, Nat.le_refl _, Nat.le_refl _, rfl, rfl, rfl, fun _ _ hw => ⟨rfl, hw⟩, fun _ r h => ⟨r, h⟩, fun _ _ h => h⟩

theorem Post.trans {P : Program} {ρ ρ' ρ'' : Rho} {H H' H'' : Heap} {w w' w'' : World} (h : Post P ρ H w ρ' H' w') (k : Post P ρ' H' w' ρ'' H'' w'') : Post P ρ H w ρ'' H'' w'' where
  le := h.le.trans k.le
  rel := k.rel
  len := Nat.le_trans h.len k.len
  size := Nat.le_trans h.size k.size
  os := k.os.trans h.os
  tape := k.tape.trans h.tape
  output := k.output.trans h.output
  frame b hb hw := by
    obtain ⟨e, hw'⟩ := h.frame b hb hw
    obtain ⟨e', hw''⟩ := k.frame b (Nat.lt_of_lt_of_le hb h.size) hw'
    exact ⟨e'.trans e, hw''⟩
  loops b r hr := by
    obtain ⟨r', hr'⟩ := h.loops b r hr
    exact k.loops b r' hr'
  img b hb hw := k.img b (Nat.lt_of_lt_of_le hb h.size) (h.img b hb hw)

theorem CellsAt.world {P : Program} {ρ ρ' : Rho} {w w' : World} {cs : List Value} {ty : TypeId} {rw : Bool} {lo e : Nat} {p : Place}
    (hl : ρ.Le ρ') (hb : w'.heap[p.b]? = w.heap[p.b]?) (h : CellsAt P ρ w cs ty rw lo e p) : CellsAt P ρ' w' cs ty rw lo e p := by
  obtain ⟨h1, h2, h3, cur, ty', fr, h4, h5, h6, h7⟩ := h
  exact ⟨h1, h2, h3, cur, ty', fr, hb.trans h4, h5, h6, fun hlo i c hi h0 hc => by
    obtain ⟨c', a, b⟩ := h7 hlo i c hi h0 hc; exact ⟨c', a, b.mono hl⟩⟩

/-- A draw of the tape turns nothing. -/
theorem HRel.heap {P : Program} {ρ : Rho} {H : Heap} {w w' : World} (h : HRel P ρ H w) (e : w'.heap = w.heap) : HRel P ρ H w' := by
  refine ⟨by rw [e]; exact h.dom, fun A cs ty rw lo ver hg => ⟨(h.cells A cs ty rw lo ver hg).1, fun f p hp => ((h.cells A cs ty rw lo ver hg).2 f p hp).world (.refl ρ) (by rw [e])⟩, by rw [e]; exact h.map, by rw [e]; exact h.loop, h.one, h.excl, h.full⟩
theorem HRel.drew {P : Program} {ρ : Rho} {H : Heap} {w : World} (h : HRel P ρ H w) : HRel P ρ H w.drew := h.heap rfl

theorem Post.drew {P : Program} {ρ : Rho} {H : Heap} {w : World} (h : HRel P ρ H w) : Post P ρ H w ρ H w.drew :=
  ⟨.refl ρ, h.drew, Nat.le_refl _, Nat.le_refl _, rfl, rfl, rfl, fun _ _ hw => ⟨rfl, hw⟩, fun _ r h => ⟨r, h⟩, fun _ _ h => h⟩

theorem EntryRel.mono {ρ ρ' : Rho} (hl : ρ.Le ρ') {a b : MapEntry} (h : EntryRel ρ a b) : EntryRel ρ' a b := ⟨h.key, h.flat, h.val.mono hl, h.born⟩
theorem LoopRel.mono {ρ ρ' : Rho} (hl : ρ.Le ρ') {a b : Loop} (h : LoopRel ρ a b) : LoopRel ρ' a b := ⟨h.state, h.pending, h.tmps.mono fun _ _ h => h.mono hl, h.params, h.assign, h.body⟩

/-- A new place for an abstract block. -/
def Rho.put (ρ : Rho) (A e : Nat) (p : Place) : Rho := fun B f => if B = A ∧ f = e then some p else ρ B f

theorem Rho.put_same (ρ : Rho) (A e : Nat) (p : Place) : ρ.put A e p A e = some p := by simp [Rho.put]
theorem Rho.put_ne {ρ : Rho} {A e B f : Nat} {p : Place} (h : ¬ (B = A ∧ f = e)) : ρ.put A e p B f = ρ B f := by simp [Rho.put, h]
theorem Rho.Le.put {ρ : Rho} {A e : Nat} {p : Place} (h : ρ A e = none) : ρ.Le (ρ.put A e p) := fun B f q hq => by
  by_cases hh : B = A ∧ f = e
  · obtain ⟨rfl, rfl⟩ := hh; rw [h] at hq; cases hq
  · rw [Rho.put_ne hh]; exact hq

theorem heap_alloc_old {w : World} {o : Obj} {b : Nat} (h : b < w.heap.size) : (w.alloc o).heap[b]? = w.heap[b]? := by
  show (w.heap.push o)[b]? = _
  rw [Array.getElem?_push, if_neg (by omega)]

theorem heap_alloc_new (w : World) (o : Obj) : (w.alloc o).heap[w.heap.size]? = some o := by
  show (w.heap.push o)[w.heap.size]? = _
  rw [Array.getElem?_push, if_pos rfl]

theorem blk_lt {w : World} {b : Nat} {o : Obj} (h : w.heap[b]? = some o) : b < w.heap.size := (Array.getElem?_eq_some_iff.1 h).1

/-- **A new block on both sides.** The abstract one is the heap's youngest; the concrete one is new too. -/
theorem Post.new {P : Program} {ρ : Rho} {H : Heap} {w : World} (h : HRel P ρ H w) (blk : Blk) (o : Obj) (e : Nat) (p : Place) (hb : p.b = w.heap.size)
    (hc : ∀ cs ty rw lo ver, blk = .cells cs ty rw lo ver → cs.length = e ∧ CellsAt P (ρ.put H.length e p) (w.alloc o) cs ty rw lo e p)
    (hm : ∀ es ck ver, blk = .map es ck ver → e = 0 ∧ ∃ es', o = .map es' ck ∧ All2 (EntryRel (ρ.put H.length e p)) es es'.toList)
    (hlp : ∀ r, blk = .loop r → e = 0 ∧ ∃ r', o = .loop r' ∧ LoopRel (ρ.put H.length e p) r r') :
    Post P ρ H w (ρ.put H.length e p) (H.cons blk) (w.alloc o) := by
  have hno : ∀ f, ρ H.length f = none := fun f => by
    cases hh : ρ H.length f with
    | none => rfl
    | some q => exact absurd (h.dom _ _ _ hh).1 (Nat.lt_irrefl _)
  have hle : ρ.Le (ρ.put H.length e p) := .put (hno e)
  have hold : ∀ A f q, (ρ.put H.length e p) A f = some q → (A = H.length ∧ f = e ∧ q = p) ∨ (A < H.length ∧ ρ A f = some q ∧ q.b < w.heap.size) := fun A f q hq => by
    by_cases hh : A = H.length ∧ f = e
    · obtain ⟨rfl, rfl⟩ := hh; rw [Rho.put_same] at hq; exact .inl ⟨rfl, rfl, (Option.some.inj hq).symm⟩
    · rw [Rho.put_ne hh] at hq; exact .inr ⟨(h.dom _ _ _ hq).1, hq, (h.dom _ _ _ hq).2⟩
  have hget_old : ∀ A, A < H.length → hget (H.cons blk) A = hget H A := fun A hA => hget_cons_old blk hA
  have hrel : HRel P (ρ.put H.length e p) (H.cons blk) (w.alloc o) := by
    refine ⟨?_, ?_, ?_, ?_, ?_, ?_, fun A hA => by
      by_cases he : A = H.length
      · subst he; rw [hget_cons_new]; rfl
      · rw [length_cons] at hA; rw [hget_old A (by omega)]; exact h.full A (by omega)⟩
    · intro A f q hq
      rcases hold A f q hq with ⟨rfl, rfl, rfl⟩ | ⟨hA, _, hqb⟩
      · exact ⟨by simp, by rw [hb]; simp⟩
      · exact ⟨by simp; omega, by simp; omega⟩
    · intro A cs ty rw lo ver hg
      have hA : A < (H.cons blk).length := hget_lt hg
      by_cases he : A = H.length
      · subst he
        rw [hget_cons_new] at hg
        obtain ⟨hlen, hcell⟩ := hc _ _ _ _ _ (Option.some.inj hg)
        refine ⟨⟨p, by rw [hlen, Rho.put_same]⟩, fun f q hq => ?_⟩
        rcases hold _ f q hq with ⟨_, rfl, rfl⟩ | ⟨hlt, _, _⟩
        · exact hcell
        · exact absurd hlt (Nat.lt_irrefl _)
      · have hA' : A < H.length := by simp at hA; omega
        rw [hget_old A hA'] at hg
        obtain ⟨⟨q, hq⟩, hall⟩ := h.cells _ _ _ _ _ _ hg
        refine ⟨⟨q, hle _ _ _ hq⟩, fun f q hq => ?_⟩
        rcases hold _ f q hq with ⟨rfl, _, _⟩ | ⟨_, hq', hqb⟩
        · exact absurd hA' (Nat.lt_irrefl _)
        · exact (hall f q hq').world hle (heap_alloc_old hqb)
    · intro A es ck ver hg
      have hA : A < (H.cons blk).length := hget_lt hg
      by_cases he : A = H.length
      · subst he
        rw [hget_cons_new] at hg
        obtain ⟨rfl, es', ho, hall⟩ := hm _ _ _ (Option.some.inj hg)
        exact ⟨p, es', Rho.put_same _ _ _ _, by rw [hb, heap_alloc_new, ho], hall⟩
      · have hA' : A < H.length := by simp at hA; omega
        rw [hget_old A hA'] at hg
        obtain ⟨q, es', hq, hw, hall⟩ := h.map _ _ _ _ hg
        exact ⟨q, es', hle _ _ _ hq, by rw [heap_alloc_old (blk_lt hw), hw], hall.mono fun _ _ x => x.mono hle⟩
    · intro A r hg
      have hA : A < (H.cons blk).length := hget_lt hg
      by_cases he : A = H.length
      · subst he
        rw [hget_cons_new] at hg
        obtain ⟨rfl, r', ho, hall⟩ := hlp _ (Option.some.inj hg)
        exact ⟨p, r', Rho.put_same _ _ _ _, by rw [hb, heap_alloc_new, ho], hall⟩
      · have hA' : A < H.length := by simp at hA; omega
        rw [hget_old A hA'] at hg
        obtain ⟨q, r', hq, hw, hall⟩ := h.loop _ _ hg
        exact ⟨q, r', hle _ _ _ hq, by rw [heap_alloc_old (blk_lt hw), hw], hall.mono hle⟩
    · intro A f q blk' hq hg
      rcases hold A f q hq with ⟨rfl, rfl, rfl⟩ | ⟨hA, hq', _⟩
      · rw [hget_cons_new] at hg
        obtain rfl := Option.some.inj hg
        cases blk with
        | cells => exact .inl rfl
        | map => exact .inr (hm _ _ _ rfl).1
        | loop => exact .inr (hlp _ rfl).1
      · rw [hget_old A hA] at hg
        exact h.one _ _ _ _ hq' hg
    · intro A f q A2 f2 q2 blk' hq hq2 hbb hg hwr
      rcases hold A f q hq with ⟨rfl, rfl, rfl⟩ | ⟨hA, hq', hqb⟩
      · rcases hold A2 f2 q2 hq2 with ⟨rfl, rfl, rfl⟩ | ⟨hA2, hq2', hqb2⟩
        · exact ⟨rfl, rfl⟩
        · omega
      · rcases hold A2 f2 q2 hq2 with ⟨rfl, rfl, rfl⟩ | ⟨hA2, hq2', hqb2⟩
        · omega
        · rw [hget_old A hA] at hg
          exact h.excl _ _ _ _ _ _ _ hq' hq2' hbb hg hwr
  refine ⟨hle, hrel, by simp, by simp, rfl, rfl, rfl, fun b hb' hw => ⟨heap_alloc_old hb', ?_⟩, fun b r hr => ⟨r, by rw [heap_alloc_old (blk_lt hr), hr]⟩, fun b hb' hw A f q hq => ?_⟩
  case refine_2 =>
    rcases hold A f q hq with ⟨rfl, rfl, rfl⟩ | ⟨hA, hq', _⟩
    · omega
    · exact hw _ _ _ hq'
  rintro ⟨A, f, q, blk', hq, rfl, hg, hwr⟩
  rcases hold A f q hq with ⟨rfl, rfl, rfl⟩ | ⟨hA, hq', _⟩
  · omega
  · rw [hget_old A hA] at hg
    exact hw ⟨A, f, q, blk', hq', rfl, hg, hwr⟩

end Go.Ds
