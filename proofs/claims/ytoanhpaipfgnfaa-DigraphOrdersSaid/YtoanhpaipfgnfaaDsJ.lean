/-
  Ds against the model: calls, rounds, code.
-/
import Derived.Test.YtoanhpaipfgnfaaDsI
import Derived.LoopNIn
import Derived.RangeFuncLeaves
import Derived.RangeFuncRecord
set_option linter.unusedVariables false
set_option linter.unusedSimpArgs false
namespace Go.Ds
section
variable {P : Program} {ρ : Rho} {H : Heap} {w : World}

/-- The fence that lets all by, in a round or in none. -/
def fe (ro : Option Nat) : Fence := { fn := fun _ => True, depth := none, alive := false, round := ro }

theorem fe_depth (ro : Option Nat) {p : Prop} : (fe ro).depth.isSome = true → p := fun h => by cases h

/-- The marks of loops over functions among an activation's deferred calls. -/
def Marks (B : Nat) (w : World) (ds : List Deferred) : Prop := ∃ rs : List Nat, ds.map (·.target) = rs.map Target.collected ∧ rs.Nodup ∧ ∀ r ∈ rs, B ≤ r ∧ w.heap[r]? = some (.deferred (some []))

def LoopAt (ro : Option Nat) (w : World) : Prop := ∀ l, ro = some l → ∃ r, w.heap[l]? = some (Obj.loop r)

theorem not_wr (h : HRel P ρ H w) {b : Nat} {ds : Option (List Deferred)} (hb : w.heap[b]? = some (.deferred ds)) : ¬ Wr ρ H b := by
  rintro ⟨A, e, p, blk, hp, rfl, hg, hwr⟩
  cases blk with
  | cells cs ty rw lo ver =>
    obtain ⟨_, _, _, cur, ty', fr, hw, _⟩ := (h.cells _ _ _ _ _ _ hg).2 _ _ hp
    rw [hw] at hb; cases hb
  | map es ck ver =>
    have he : e = 0 := (h.one _ _ _ _ hp hg).resolve_left (by simp [Blk.isCells])
    subst he
    obtain ⟨q, es', hq, hw, _⟩ := h.map _ _ _ _ hg
    rw [hp] at hq; obtain rfl := Option.some.inj hq
    rw [hw] at hb; cases hb
  | loop r =>
    have he : e = 0 := (h.one _ _ _ _ hp hg).resolve_left (by simp [Blk.isCells])
    subst he
    obtain ⟨q, es', hq, hw, _⟩ := h.loop _ _ hg
    rw [hp] at hq; obtain rfl := Option.some.inj hq
    rw [hw] at hb; cases hb

/-- No place is at a block of deferred calls. -/
theorem not_placed (h : HRel P ρ H w) {b : Nat} {ds : Option (List Deferred)} (hb : w.heap[b]? = some (.deferred ds)) {A e : Nat} {p : Place} (hp : ρ A e = some p) : p.b ≠ b := by
  intro hpb
  subst hpb
  have hA := (h.dom _ _ _ hp).1
  cases hg : hget H A with
  | none => have := h.full A hA; rw [hg] at this; cases this
  | some blk =>
    cases blk with
    | cells cs ty rw lo ver =>
      obtain ⟨_, _, _, cur, ty', fr, hw, _⟩ := (h.cells _ _ _ _ _ _ hg).2 _ _ hp
      rw [hw] at hb; cases hb
    | map es ck ver =>
      have he : e = 0 := (h.one _ _ _ _ hp hg).resolve_left (by simp [Blk.isCells])
      subst he
      obtain ⟨q, es', hq, hw, _⟩ := h.map _ _ _ _ hg
      rw [hp] at hq; obtain rfl := Option.some.inj hq
      rw [hw] at hb; cases hb
    | loop r =>
      have he : e = 0 := (h.one _ _ _ _ hp hg).resolve_left (by simp [Blk.isCells])
      subst he
      obtain ⟨q, es', hq, hw, _⟩ := h.loop _ _ hg
      rw [hp] at hq; obtain rfl := Option.some.inj hq
      rw [hw] at hb; cases hb

theorem Marks.post {ρ' : Rho} {H' : Heap} {w' : World} {B : Nat} {ds : List Deferred} (h : Marks B w ds) (hr : HRel P ρ H w) (hp : Post P ρ H w ρ' H' w') : Marks B w' ds := by
  obtain ⟨rs, h1, h2, h3⟩ := h
  exact ⟨rs, h1, h2, fun r hr' => ⟨(h3 r hr').1, by rw [(hp.frame r (blk_lt (h3 r hr').2) (not_wr hr (h3 r hr').2)).1]; exact (h3 r hr').2⟩⟩

theorem LoopAt.post {ρ' : Rho} {H' : Heap} {w' : World} {ro : Option Nat} (h : LoopAt ro w) (hp : Post P ρ H w ρ' H' w') : LoopAt ro w' := fun l hl => by
  obtain ⟨r, hr⟩ := h l hl
  exact hp.loops l r hr

/-- A world that has turned at blocks that are no place alone. -/
theorem HRel.other {w' : World} (h : HRel P ρ H w) (hsz : w.heap.size ≤ w'.heap.size) (hb : ∀ A e p, ρ A e = some p → w'.heap[p.b]? = w.heap[p.b]?) : HRel P ρ H w' where
  dom A e p hp := ⟨(h.dom _ _ _ hp).1, Nat.lt_of_lt_of_le (h.dom _ _ _ hp).2 hsz⟩
  cells A cs ty rw lo ver hg := ⟨(h.cells _ _ _ _ _ _ hg).1, fun e p hp => ((h.cells _ _ _ _ _ _ hg).2 e p hp).world (.refl ρ) (hb _ _ _ hp)⟩
  map A es ck ver hg := by obtain ⟨p, es', hp, hw, ha⟩ := h.map _ _ _ _ hg; exact ⟨p, es', hp, by rw [hb _ _ _ hp, hw], ha⟩
  loop A r hg := by obtain ⟨p, r', hp, hw, ha⟩ := h.loop _ _ hg; exact ⟨p, r', hp, by rw [hb _ _ _ hp, hw], ha⟩
  one := h.one
  excl := h.excl
  full := h.full

theorem Post.allocOther (h : HRel P ρ H w) (o : Obj) : Post P ρ H w ρ H (w.alloc o) where
  le := .refl ρ
  rel := h.other (by simp) fun A e p hp => heap_alloc_old (h.dom _ _ _ hp).2
  len := Nat.le_refl _
  size := by simp
  os := rfl
  tape := rfl
  output := rfl
  frame b hb hw := ⟨heap_alloc_old hb, hw⟩
  loops b r hr := ⟨r, by rw [heap_alloc_old (blk_lt hr), hr]⟩
  img _ _ h := h

/-- A block of deferred calls, younger than the beginning, is shut. -/
theorem Post.putDeferred {w0 : World} {ρ0 : Rho} {H0 : Heap} (h : Post P ρ0 H0 w0 ρ H w) {b : Nat} {ds : Option (List Deferred)} (hb : w.heap[b]? = some (.deferred ds)) (hn : w0.heap.size ≤ b) (ds' : Option (List Deferred)) :
    Post P ρ0 H0 w0 ρ H (w.putObj b (.deferred ds')) := by
  have hne : ∀ c, c ≠ b → (w.putObj b (.deferred ds')).heap[c]? = w.heap[c]? := fun c hc => by
    simp only [World.putObj]; rw [Array.getElem?_setIfInBounds_ne (Ne.symm hc)]
  have hsz : (w.putObj b (.deferred ds')).heap.size = w.heap.size := by simp [World.putObj]
  exact {
    le := h.le
    rel := h.rel.other (by rw [hsz]; exact Nat.le_refl _) fun A e p hp => hne _ (not_placed h.rel hb hp)
    len := h.len
    size := by rw [hsz]; exact h.size
    os := h.os
    tape := h.tape
    output := h.output
    frame := fun c hc hw => ⟨by rw [hne c (by omega)]; exact (h.frame c hc hw).1, (h.frame c hc hw).2⟩
    loops := fun c r hr => by
      obtain ⟨r', hr'⟩ := h.loops c r hr
      have := blk_lt hr
      exact ⟨r', by rw [hne c (by omega)]; exact hr'⟩
    img := h.img }

def Ex.exit' : Ex → Exit
  | .normal => .normal
  | .exit id => .exit id
  | .ret => .ret

/-- Where a piece of code ends, by Ds. -/
def QD (P : Program) (ρ : Rho) (H : Heap) (w : World) (B : Nat) (e : Ex) (l' : List Value) (H' : Heap) : Exit → Act → World → Prop := fun e' a' w' =>
  e' = e.exit' ∧ ∃ ρ', Post P ρ H w ρ' H' w' ∧ All2 (V ρ') l' a'.tmps.toList ∧ Marks B w' a'.defers

/-- A piece of code runs as Ds says. -/
def Sim (P : Program) (c : Code) (l : List Value) (H : Heap) (e : Ex) (l' : List Value) (H' : Heap) : Prop :=
  ∀ (ro : Option Nat) (k B : Nat) (ρ : Rho) (w : World) (a : Act), HRel P ρ H w → All2 (V ρ) l a.tmps.toList → LoopAt ro w → Marks B w a.defers → B ≤ w.heap.size → c.wpIn (fe ro) k P (QD P ρ H w B e l' H') a w

theorem QD.trans {ρ1 : Rho} {H1 : Heap} {w1 : World} {B : Nat} {e : Ex} {l' : List Value} {H' : Heap} (hp : Post P ρ H w ρ1 H1 w1) {e' : Exit} {a' : Act} {w' : World} (h : QD P ρ1 H1 w1 B e l' H' e' a' w') : QD P ρ H w B e l' H' e' a' w' := by
  obtain ⟨h1, ρ', h2, h3, h4⟩ := h
  exact ⟨h1, ρ', hp.trans h2, h3, h4⟩

/-- What a function gives, by Ds. -/
def CallOk (P : Program) (f : FuncId) (args : List Value) (H : Heap) (v : Value) (H' : Heap) : Prop :=
  ∀ (k : Nat) (ρ : Rho) (w : World) (args' : Array Value), HRel P ρ H w → All2 (V ρ) args args'.toList →
    CallsIn (fe none) k P f args' w fun e w' => ∃ ρ' v', e = .returned v' ∧ Post P ρ H w ρ' H' w' ∧ V ρ' v v'

/-- One result. -/
def resF (tm : Array Value) : ResultVar → Sem Value
  | .tmp t => Pure.pure (tm.getD t undef)
  | .cell a t => do loadVar t (← asAddr (tm.getD a undef))

theorem results_resF (fn : Func) (tm : Array Value) : results fn tm = (do let vs ← fn.results.mapM (resF tm); Pure.pure (if h : vs.size = 1 then vs[0] else .tuple vs)) := rfl

theorem resultsL_ok (h : HRel P ρ H w) {l : List Value} {tm : Array Value} (hE : All2 (V ρ) l tm.toList) : ∀ (rs : List ResultVar) (vs : List Value), resultsL P l H rs = some vs →
    ∃ vs', (rs.mapM (resF tm)).run P w = .ok vs' w ∧ All2 (V ρ) vs vs'
  | [], vs, hv => by
    simp only [resultsL, Option.some.injEq] at hv; subst hv
    exact ⟨[], by simp, trivial⟩
  | r :: rs, vs, hv => by
    simp only [resultsL, Option.bind_eq_some_iff, Option.map_eq_some_iff] at hv
    obtain ⟨v, hr, vs0, hrs, rfl⟩ := hv
    obtain ⟨vs', hrun, hall⟩ := resultsL_ok h hE rs vs0 hrs
    cases r with
    | tmp t =>
      simp only [resultD, Option.some.injEq] at hr; subst hr
      exact ⟨tm.getD t undef :: vs', by simp only [List.mapM_cons, Sem.run_bind, resF, Sem.run_pure, Result.andThen_ok, hrun], get_ok hE t, hall⟩
    | cell a t =>
      simp only [resultD] at hr
      obtain ⟨r', hrun2, hv⟩ := load_ok h hr (get_ok hE a)
      have hva := get_ok hE a
      have hp : ∃ b, tm.getD a undef = .pointer (some b) := by
        unfold loadD at hr
        split at hr
        · rename_i heq; rw [heq] at hva; exact hva.ptr_some
        · cases hr
      obtain ⟨b, hb⟩ := hp
      rw [hb] at hrun2
      have hlv : (loadVar t b).run P w = .ok r' w := by simpa [Instr.loadAt, Instr.sureAddr] using hrun2
      refine ⟨r' :: vs', ?_, hv, hall⟩
      have hone : (resF tm (.cell a t)).run P w = .ok r' w := by
        simp only [resF, Sem.run_bind, hb, asAddr, Sem.run_pure, Result.andThen_ok, hlv]
      simp only [List.mapM_cons, Sem.run_bind, hone, Sem.run_pure, Result.andThen_ok, hrun]

theorem V.v1_of {v v' : Value} (h : V ρ v v') (hn : noTuple v = true) : V1 ρ v v' := by
  cases h with
  | v1 h => exact h
  | tuple h => simp [noTuple] at hn

theorem results_ok (h : HRel P ρ H w) {fn : Func} {l : List Value} {tm : Array Value} (hE : All2 (V ρ) l tm.toList) {v : Value} (hr : resultsD P fn l H = some v) :
    ∃ v', (results fn tm).run P w = .ok v' w ∧ V ρ v v' := by
  unfold resultsD at hr
  simp only [Option.bind_eq_some_iff] at hr
  obtain ⟨vs, hvs, hr⟩ := hr
  obtain ⟨vs', hrun, hall⟩ := resultsL_ok h hE _ _ hvs
  have hm : (fn.results.mapM (resF tm)).run P w = .ok vs'.toArray w := by
    rw [Array.mapM_eq_mapM_toList]
    simp only [Sem.run_map, hrun, Result.andThen_ok]
  rw [results_resF]
  split at hr
  · rename_i x
    obtain rfl := Option.some.inj hr
    cases vs' with
    | nil => exact hall.elim
    | cons y vs' => cases vs' with
      | cons => exact hall.2.elim
      | nil =>
        refine ⟨y, ?_, hall.1⟩
        simp only [Sem.run_bind]
        rw [hm]
        simp
  · rename_i hne
    split at hr
    · rename_i hnt
      obtain rfl := Option.some.inj hr
      refine ⟨.tuple vs'.toArray, ?_, .tuple ?_⟩
      · simp only [Sem.run_bind]
        rw [hm]
        have hlen := hall.length
        have : ¬ vs'.toArray.size = 1 := by
          intro h1
          have : vs.length = 1 := by rw [hlen]; simpa using h1
          obtain ⟨x, hx⟩ := List.length_eq_one_iff.1 this
          exact hne x hx
        simp only [Result.andThen_ok, Sem.run_pure, dif_neg this]
      · have key : ∀ {a b : List Value}, All2 (V ρ) a b → a.all noTuple = true → All2 (V1 ρ) a b := by
          intro a
          induction a with
          | nil => intro b h _; cases b with | nil => trivial | cons => exact h.elim
          | cons x a ih =>
            intro b h hs
            cases b with
            | nil => exact h.elim
            | cons y b =>
              simp only [List.all_cons, Bool.and_eq_true] at hs
              exact ⟨h.1.v1_of hs.1, ih h.2 hs.2⟩
        simpa using key hall hnt
    · cases hr

theorem leaves_ok {fn : Func} {tm : Array Value} {k B : Nat} {R : Ending → World → Prop} {w0 : World} {ρ0 : Rho} {H0 : Heap} {v : Value} {l : List Value} (hE : All2 (V ρ) l tm.toList) (hr : resultsD P fn l H = some v) (hB : w0.heap.size ≤ B)
    (hR : ∀ w2 v', Post P ρ0 H0 w0 ρ H w2 → V ρ v v' → R (.returned v') w2) : ∀ (ds : List Deferred) (w1 : World), Post P ρ0 H0 w0 ρ H w1 → Marks B w1 ds → LeavesInM (fe none) k P fn tm R ds .returning w1
  | [], w1, hp, _ => by
    obtain ⟨v', hrun, hv⟩ := results_ok hp.rel hE hr
    exact ⟨v', hrun, hR _ _ hp hv⟩
  | d :: ds, w1, hp, ⟨rs, h1, h2, h3⟩ => by
    cases rs with
    | nil => simp at h1
    | cons r rs =>
      simp only [List.map_cons, List.cons.injEq] at h1
      obtain ⟨hd, hds⟩ := h1
      have hb := h3 r (by simp)
      refine ⟨by simp, .inl ⟨r, _, hd, run_takeDeferred hb.2, ?_⟩⟩
      refine leaves_ok hE hr hB hR ds _ (hp.putDeferred hb.2 (Nat.le_trans hB hb.1) none) ⟨rs, hds, (List.nodup_cons.1 h2).2, fun q hq => ⟨(h3 q (by simp [hq])).1, ?_⟩⟩
      have hne : q ≠ r := fun e => (List.nodup_cons.1 h2).1 (e ▸ hq)
      simp only [World.putObj]
      rw [Array.getElem?_setIfInBounds_ne (Ne.symm hne)]
      exact (h3 q (by simp [hq])).2

/-- **A function, out of its body.** -/
theorem callF_ok {ex : Run} (hex : ∀ c l H e l' H', ex c l H = some (e, l', H') → Sim P c l H e l' H') {f : FuncId} {args : List Value} {v : Value} {H' : Heap} (hc : callF P ex f args H = some (v, H')) : CallOk P f args H v H' := by
  intro k ρ w args' hr ha
  unfold callF at hc
  split at hc
  · rename_i fn hf
    split at hc
    · rename_i c hb
      split at hc
      · cases hc
      · rename_i hname
        have hlen := ha.length
        have hE : All2 (V ρ) (args ++ List.replicate (fn.ntmps - args.length) undef) ({ tmps := args' ++ Array.replicate (fn.ntmps - args'.size) undef, defers := [] } : Act).tmps.toList := by
          simp only [Array.toList_append, Array.toList_replicate]
          refine ha.append ?_
          have : args'.size = args.length := by simpa using hlen.symm
          rw [this]
          exact All2.same fun x hx => by rw [List.mem_replicate] at hx; rw [hx.2]; exact .undef
        have key : ∀ e l1 H1, ex c (args ++ List.replicate (fn.ntmps - args.length) undef) H = some (e, l1, H1) → (e = .normal ∨ e = .ret) → (resultsD P fn l1 H1).map (fun v => (v, H1)) = some (v, H') →
            CallsIn (fe none) k P f args' w fun e w' => ∃ ρ' v', e = .returned v' ∧ Post P ρ H w ρ' H' w' ∧ V ρ' v v' := fun e l1 H1 he hen hres => by
          simp only [Option.map_eq_some_iff] at hres
          obtain ⟨v0, hv0, hq⟩ := hres
          injection hq with e1 e2; subst e1 e2
          refine callsIn_of_wp_marks hf hb trivial ?_ rfl
          refine wpIn_mono (hex _ _ _ _ _ _ he none k w.heap.size ρ w _ hr hE (fun _ h => by cases h) ⟨[], rfl, List.nodup_nil, by simp⟩ (Nat.le_refl _)) ?_
          rintro e' a' w' ⟨he', ρ', hp, hE', hM⟩
          have hl := leaves_ok (P := P) (fn := fn) (k := k) (R := fun e w' => ∃ ρ' v', e = .returned v' ∧ Post P ρ H w ρ' H1 w' ∧ V ρ' v0 v') hE' hv0 (Nat.le_refl _) (fun w2 v' hp2 hv => ⟨ρ', v', rfl, hp2, hv⟩) a'.defers w' hp hM
          rcases hen with rfl | rfl
          · subst he'; exact hl
          · subst he'; exact hl
        split at hc
        · rename_i l1 H1 he; exact key _ _ _ he (.inl rfl) hc
        · rename_i l1 H1 he; exact key _ _ _ he (.inr rfl) hc
        · cases hc
    · cases hc
  · cases hc
end
end Go.Ds
