/-
  Ds against the model: the operations that call nothing.
-/
import Derived.Test.YtoanhpaipfgnfaaDsC
set_option linter.unusedVariables false
set_option linter.unusedSimpArgs false
namespace Go.Ds
section
variable {P : Program} {ρ : Rho} {H : Heap} {w : World}

/-- An operation's run is what Ds says. -/
def OpOk (P : Program) (ρ : Rho) (H : Heap) (w : World) (res : Result Next) (v : Value) (H' : Heap) : Prop :=
  ∃ ρ' v' nx w', res = .ok nx w' ∧ (nx = .value v' ∨ (nx = .skip ∧ v' = undef)) ∧ Post P ρ H w ρ' H' w' ∧ V ρ' v v'

theorem OpOk.pure (h : HRel P ρ H w) {res : Result Next} {v v' : Value} (hr : res = .ok (.value v') w) (hv : V ρ v v') : OpOk P ρ H w res v H :=
  ⟨ρ, v', _, w, hr, .inl rfl, .refl h, hv⟩

theorem pureRun_run {α : Type} (s : Sem α) {x : α} (h : pureRun P s = some x) (w : World) : s.run P w = .ok x w := by
  induction s with
  | pure a => simp only [pureRun, Option.some.injEq] at h; subst h; rfl
  | program k ih => simp only [pureRun] at h; simp only [Sem.run]; exact ih P h
  | _ => simp [pureRun] at h

theorem get_ok {l : List Value} {tm : Array Value} (hE : All2 (V ρ) l tm.toList) (t : Tmp) : V ρ (get l t) (tm.getD t undef) := by
  rw [get_eq]
  rw [List.getD_eq_getElem?_getD]
  have e : tm.getD t undef = (tm.toList[t]?).getD undef := by simp
  rw [e]
  cases h : l[t]? with
  | none =>
    have : tm.toList[t]? = none := by
      rw [List.getElem?_eq_none_iff] at h ⊢
      rw [← hE.length]; exact h
    rw [this]; exact .undef
  | some a =>
    obtain ⟨b, hb, r⟩ := hE.get t a h
    rw [hb]; exact r

theorem ev_ok {l : List Value} {a : Act} (hE : All2 (V ρ) l a.tmps.toList) {x : Operand} (hx : operandOk x = true) : V ρ (ev l x) (a.eval x) := by
  cases x with
  | tmp t => exact get_ok hE t
  | const v => exact .of_flat hx
  | global g => simp [operandOk] at hx
  | func f => exact .v1 (.c1 (.fn trivial trivial))

theorem put_ok {l : List Value} {a : Act} (hE : All2 (V ρ) l a.tmps.toList) {v v' : Value} (hv : V ρ v v') (d : Option Tmp) : All2 (V ρ) (put l d v) (a.put d v').tmps.toList := by
  cases d with
  | none => exact hE
  | some k => simp only [put, setL_eq, Act.put, Array.toList_setIfInBounds]; exact hE.set hv k

/-! ### Reading cells -/
theorem at_add {p : Place} {i : Nat} (h0 : 0 ≤ (i : Int) + p.d) (j : Nat) : p.at (i + j) = p.at i + j := by
  unfold Place.at; omega

theorem addr_add (b o j : Nat) : (⟨b, o, none⟩ : Addr).add j = ⟨b, o + j, none⟩ := by
  unfold Addr.add; split <;> simp_all

theorem cells_ok (h : HRel P ρ H w) {A i e n : Nat} {l : List Value} {p : Place} (hc : cellsAt H A i e n = some l) (hp : ρ A e = some p) (h0 : 0 ≤ (i : Int) + p.d) :
    ∃ l', All2 (C1 ρ) l l' ∧ l.length = n ∧ i + n ≤ e ∧ (∀ (j : Nat) v, l'[j]? = some v → w.cell? ((⟨p.b, p.at i, none⟩ : Addr).add j) = some v) := by
  unfold cellsAt at hc
  split at hc
  · rename_i cs ty rw lo ver hg
    split at hc
    · rename_i hcond
      simp only [Bool.and_eq_true, decide_eq_true_eq] at hcond
      obtain ⟨⟨hlo, hle⟩, hin⟩ := hcond
      obtain rfl := Option.some.inj hc
      obtain ⟨_, _, _, cur, ty', fr, hw, hsz, _, hcell⟩ := (h.cells _ _ _ _ _ _ hg).2 e p hp
      have hll : ((cs.drop i).take n).length = n := by simp; omega
      have hcur : ∀ j, j < n → ∃ c', cur[p.at i + j]? = some c' ∧ ∃ c, cs[i + j]? = some c ∧ C1 ρ c c' := fun j hj => by
        have hlt : i + j < cs.length := by omega
        obtain ⟨c', a, b⟩ := hcell hlo (i + j) cs[i + j] (by omega) (by omega) (List.getElem?_eq_getElem hlt)
        exact ⟨c', by rw [at_add h0] at a; exact a, _, List.getElem?_eq_getElem hlt, b⟩
      refine ⟨(cur.toList.drop (p.at i)).take n, All2.of_get ?_ ?_, hll, hin, ?_⟩
      · rw [hll]
        have : n = 0 ∨ p.at i + n ≤ cur.size := by
          rcases Nat.eq_zero_or_pos n with hn | hn
          · exact .inl hn
          · obtain ⟨c', hc', _⟩ := hcur (n - 1) (by omega)
            have := (Array.getElem?_eq_some_iff.1 hc').1
            exact .inr (by omega)
        simp
        omega
      · intro j a ha
        have hj : j < n := by
          have := (List.getElem?_eq_some_iff.1 ha).1; rw [hll] at this; exact this
        obtain ⟨c', hc', c, hcc, hr⟩ := hcur j hj
        rw [List.getElem?_take_of_lt hj, List.getElem?_drop, hcc] at ha
        obtain rfl := Option.some.inj ha
        exact ⟨c', by rw [List.getElem?_take_of_lt hj, List.getElem?_drop]; simpa using hc', hr⟩
      · intro j v hv
        have hj : j < n := by
          have := (List.getElem?_eq_some_iff.1 hv).1; simp at this; omega
        rw [List.getElem?_take_of_lt hj, List.getElem?_drop] at hv
        rw [addr_add]
        simp only [World.cell?, hw]
        simpa using hv
    · cases hc
  · cases hc

theorem V.ptr_inv {A i e : Nat} {v' : Value} (h : V ρ (.pointer (some ⟨A, i, some e⟩)) v') : ∃ p, ρ A e = some p ∧ 0 ≤ (i : Int) + p.d ∧ v' = .pointer (some ⟨p.b, p.at i, none⟩) := by
  cases h with
  | v1 h => cases h with
    | c1 h => cases h with
      | c0 h => cases h with
        | flat h => simp [scalar] at h
        | ptr h h0 => exact ⟨_, h, h0, rfl⟩

theorem V.slice_inv {A i e n c : Nat} {v' : Value} (h : V ρ (.slice (some ⟨A, i, some e⟩) n c) v') :
    ∃ p c' a, ρ A e = some p ∧ 0 ≤ (i : Int) + p.d ∧ i + n * p.k ≤ e ∧ n ≤ c' ∧ ((a = ⟨p.b, p.at i, none⟩ ∧ p.at i + c' * p.k ≤ p.sz) ∨ (n = 0 ∧ c' = 0)) ∧ c = p.k ∧ v' = .slice (some a) n c' := by
  cases h with
  | v1 h => cases h with
    | c1 h => cases h with
      | c0 h => cases h with
        | flat h => simp [scalar] at h
        | slice h h0 hn hc hs => exact ⟨_, _, _, h, h0, hn, hc, hs, rfl, rfl⟩

/-- A slice value of whatever kind: its shape. -/
theorem V.slice_any {o : Option Addr} {n c : Nat} {v' : Value} (h : V ρ (.slice o n c) v') :
    (o = none ∧ n = 0 ∧ c = 0 ∧ v' = .slice none 0 0) ∨ (∃ A i e p c' a, o = some ⟨A, i, some e⟩ ∧ ρ A e = some p ∧ 0 ≤ (i : Int) + p.d ∧ i + n * p.k ≤ e ∧ n ≤ c' ∧ ((a = ⟨p.b, p.at i, none⟩ ∧ p.at i + c' * p.k ≤ p.sz) ∨ (n = 0 ∧ c' = 0)) ∧ c = p.k ∧ v' = .slice (some a) n c') := by
  cases h with
  | v1 h => cases h with
    | c1 h => cases h with
      | c0 h => cases h with
        | flat h =>
          cases o with
          | none => simp only [scalar, Bool.and_eq_true, beq_iff_eq] at h; obtain ⟨rfl, rfl⟩ := h; exact .inl ⟨rfl, rfl, rfl, rfl⟩
          | some a => simp [scalar] at h
        | slice h h0 hn hc hs => exact .inr ⟨_, _, _, _, _, _, rfl, h, h0, hn, hc, hs, rfl, rfl⟩

theorem run_isAggP {t : TypeId} {b : Bool} (h : aggP P t = some b) (w : World) : (isAgg t).run P w = .ok b w := by
  unfold aggP at h
  unfold isAgg
  cases hu : P.underlying t with
  | none => rw [hu] at h; cases h
  | some d =>
    rw [hu] at h
    simp only [Sem.run_bind, run_underlying hu, Result.andThen_ok]
    cases d <;> simp at h <;> subst h <;> rfl

theorem run_sizeP {t : TypeId} {n : Nat} (h : sizeP P t = some n) (w : World) : (sizeOf t).run P w = .ok n w := by
  unfold sizeP at h
  cases hi : P.info? t with
  | none => rw [hi] at h; cases h
  | some i => rw [hi] at h; obtain rfl := Option.some.inj h; simp [sizeOf, typeInfo, hi]

theorem run_zeroP {t : TypeId} {z : Value} (h : zeroP P t = some z) (w : World) : (zeroValue t).run P w = .ok z w := by
  unfold zeroP at h
  cases hi : P.info? t with
  | none => rw [hi] at h; cases h
  | some i => rw [hi] at h; simp only [Option.bind_some] at h; simp [zeroValue, typeInfo, hi, h]

theorem load_ok (h : HRel P ρ H w) {t : TypeId} {v v' r : Value} (hl : loadD P H t v = some r) (hv : V ρ v v') : ∃ r', (Instr.loadAt t v').run P w = .ok r' w ∧ V ρ r r' := by
  unfold loadD at hl
  split at hl
  · rename_i A i e
    obtain ⟨p, hp, h0, rfl⟩ := hv.ptr_inv
    split at hl
    · rename_i hagg
      cases hs : sizeP P t with
      | none => rw [hs] at hl; cases hl
      | some n =>
        rw [hs] at hl
        simp only [Option.bind_some, Option.map_eq_some_iff] at hl
        obtain ⟨l, hc, rfl⟩ := hl
        obtain ⟨l', hall, hlen, _, hcell⟩ := cells_ok h hc hp h0
        refine ⟨.agg l'.toArray, ?_, .v1 (.agg (by simpa using hall))⟩
        have hn : l'.length = n := by rw [← hall.length, hlen]
        have := run_loadCells_list (P := P) w ⟨p.b, p.at i, none⟩ l' hcell
        rw [hn] at this
        simp [Instr.loadAt, Instr.sureAddr, loadVar, run_isAggP hagg, run_sizeP hs, this]
    · rename_i hagg
      cases hc : cellsAt H A i e 1 with
      | none => rw [hc] at hl; cases hl
      | some l =>
        rw [hc] at hl
        simp only [Option.bind_some] at hl
        obtain ⟨l', hall, hlen, _, hcell⟩ := cells_ok h hc hp h0
        obtain ⟨r', hr', hrel⟩ := hall.get 0 r hl
        refine ⟨r', ?_, .v1 (.c1 hrel)⟩
        have hcl : w.cell? ⟨p.b, p.at i, none⟩ = some r' := hcell 0 r' hr'
        simp [Instr.loadAt, Instr.sureAddr, loadVar, run_isAggP hagg, run_load, hcl]
    · cases hl
  · cases hl

end
end Go.Ds
