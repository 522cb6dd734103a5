/-
  Ds against the model: writing cells, new rows.
-/
import Derived.Test.YtoanhpaipfgnfaaDsD
set_option linter.unusedVariables false
set_option linter.unusedSimpArgs false
namespace Go.Ds
section
variable {P : Program} {ρ : Rho} {H : Heap} {w : World}

theorem length_setMany : ∀ (l cs : List Value) (i : Nat), (setMany cs i l).length = cs.length
  | [], _, _ => rfl
  | v :: l, cs, i => by simp [setMany, setL_eq, length_setMany l]

theorem getElem?_setMany : ∀ (l cs : List Value) (i j : Nat), i + l.length ≤ cs.length → (setMany cs i l)[j]? = if i ≤ j ∧ j < i + l.length then l[j - i]? else cs[j]?
  | [], cs, i, j, _ => by simp [setMany]; omega
  | v :: l, cs, i, j, h => by
    simp only [setMany, setL_eq, List.length_cons] at h ⊢
    rw [getElem?_setMany l (cs.set i v) (i + 1) j (by simp; omega)]
    by_cases hj : j = i
    · subst hj
      rw [if_neg (by omega), if_pos (by omega), List.getElem?_set_self (by omega)]
      simp
    · by_cases h2 : i + 1 ≤ j ∧ j < i + 1 + l.length
      · rw [if_pos h2, if_pos (by omega)]
        have : j - i = (j - (i + 1)) + 1 := by omega
        rw [this]; rfl
      · rw [if_neg h2, if_neg (by omega), List.getElem?_set_ne (by omega)]

theorem seg_get (l m : List Value) (o j : Nat) (h : o + m.length ≤ l.length) : (l.take o ++ m ++ l.drop (o + m.length))[j]? = if o ≤ j ∧ j < o + m.length then m[j - o]? else l[j]? := by
  have hlen : (l.take o).length = o := by simp; omega
  by_cases h1 : j < o
  · rw [if_neg (by omega), List.append_assoc, List.getElem?_append_left (by omega), List.getElem?_take_of_lt h1]
  · by_cases h2 : j < o + m.length
    · rw [if_pos (by omega), List.getElem?_append_left (by simp; omega), List.getElem?_append_right (by omega), hlen]
    · rw [if_neg (by omega), List.getElem?_append_right (by simp; omega)]
      simp only [List.length_append, hlen, List.getElem?_drop]
      congr 1; omega

/-- **Cells of a row of ours are written.** -/
theorem write_ok (h : HRel P ρ H w) {A i : Nat} {cs : List Value} {ty : TypeId} {lo ver : Nat} {p : Place} (ver' : Nat) {l l' : List Value} (hg : hget H A = some (.cells cs ty true lo ver))
    (hp : ρ A cs.length = some p) (h0 : 0 ≤ (i : Int) + p.d) (hl : All2 (C1 ρ) l l') (hi : i + l.length ≤ cs.length) (hlo0 : lo ≤ cs.length) :
    ∃ w', (storeCells ⟨p.b, p.at i, none⟩ l').run P w = .ok () w' ∧ Post P ρ H w ρ (hset H A (.cells (setMany cs i l) ty true cs.length ver')) w' := by
  have hall := (h.cells _ _ _ _ _ _ hg).2
  obtain ⟨_, hk, hfit, cur, ty', fr, hw, hsz, hfr, hcell⟩ := hall _ _ hp
  obtain rfl := hfr rfl
  have hll := hl.length
  have hati : p.at i + l'.length ≤ cur.size := by
    rw [← hll, hsz]; unfold Place.at; omega
  have hst := run_storeCells_at P p.b (p.at i) ty' l' 0 cur w hw (by simpa using hati) hl.oneCells
  simp only [Nat.add_zero] at hst
  refine ⟨_, hst, ?_⟩
  have hseg : ∀ (j : Nat), ((cur.toList.take (p.at i) ++ l' ++ cur.toList.drop (p.at i + l'.length)).toArray)[j]? = if p.at i ≤ j ∧ j < p.at i + l'.length then l'[j - p.at i]? else cur[j]? := fun j => by
    have := seg_get cur.toList l' (p.at i) j (by simpa using hati)
    simpa using this
  have hsize : ((cur.toList.take (p.at i) ++ l' ++ cur.toList.drop (p.at i + l'.length)).toArray).size = cur.size := by
    simp; omega
  generalize (cur.toList.take (p.at i) ++ l' ++ cur.toList.drop (p.at i + l'.length)).toArray = new at hseg hsize
  refine Post.upd h _ hg rfl hp (.refl ρ) (fun _ _ _ hq => .inl hq) (setRow_size _ _ _) (fun b hb => setRow_other _ _ _ _ hb) rfl rfl rfl ?_ (fun _ _ _ e => by cases e) (fun _ e => by cases e) (fun _ _ _ => .inl rfl)
    (fun r hr => by rw [hw] at hr; cases hr)
  intro cs2 ty2 rw2 lo2 ver2 e
  injection e with e1 e2 e3 e4 e5
  subst e1 e2 e3 e4 e5
  rw [length_setMany]
  refine ⟨⟨p, hp⟩, fun f q hq => ?_⟩
  have hq0 := hall f q hq
  obtain ⟨q1, q2, q3, qcur, qty, qfr, q4, q5, q6, q7⟩ := hq0
  by_cases hqb : q.b = p.b
  · have hqd : q.d = p.d := (h.excl _ _ _ _ _ _ _ hp hq hqb.symm hg rfl).2
    rw [hqb, hw] at q4
    injection (Option.some.inj q4) with e1 e2 e3
    subst e1 e2 e3
    refine ⟨by rw [length_setMany]; exact q1, q2, q3, new, ty', (0, 0), by rw [hqb]; exact setRow_heap w p.b cur new ty' (0, 0) hw, by rw [hsize]; exact q5, fun _ => rfl, fun hlo j c hj hj0 hc => ?_⟩
    have hf : f = cs.length := by omega
    subst hf
    have hat : q.at j = p.at j := by unfold Place.at; rw [hqd]
    have hj0' : 0 ≤ (j : Int) + p.d := by rw [← hqd]; exact hj0
    rw [getElem?_setMany l cs i j hi] at hc
    rw [hat, hseg]
    by_cases hin : i ≤ j ∧ j < i + l.length
    · rw [if_pos hin] at hc
      obtain ⟨c', hc', hr⟩ := hl.get _ _ hc
      refine ⟨c', ?_, hr⟩
      have e1 : p.at j = p.at i + (j - i) := by unfold Place.at; omega
      rw [if_pos (by omega), e1]
      simpa using hc'
    · rw [if_neg hin] at hc
      obtain ⟨c', hc', hr⟩ := q7 (by omega) j c hj hj0 hc
      refine ⟨c', ?_, hr⟩
      rw [hat] at hc'
      rw [if_neg (by unfold Place.at; omega)]
      exact hc'
  · refine ⟨by rw [length_setMany]; exact q1, q2, q3, qcur, qty, qfr, by rw [setRow_other _ _ _ _ hqb]; exact q4, q5, q6, fun hlo j c hj hj0 hc => ?_⟩
    have hf : f = cs.length := by omega
    subst hf
    rw [hp] at hq
    exact absurd (by rw [Option.some.inj hq]) hqb

theorem store_ok (h : HRel P ρ H w) {t : TypeId} {v v' x x' : Value} {H' : Heap} (hs : storeD P H t v x = some H') (hv : V ρ v v') (hx : V ρ x x') :
    ∃ w', (Instr.storeAt t v' x').run P w = .ok () w' ∧ Post P ρ H w ρ H' w' := by
  unfold storeD at hs
  split at hs
  · rename_i A i e
    obtain ⟨p, hp, h0, rfl⟩ := hv.ptr_inv
    split at hs
    · rename_i cs ty lo ver hg
      simp only at hs
      split at hs
      · rename_i hcond
        obtain ⟨hsize, hone, rfl, hin, hlo⟩ := hcond
        obtain rfl := Option.some.inj hs
        have hl := hx.cells hone
        obtain ⟨w', hrun, hpost⟩ := write_ok h (ver + 1) hg hp h0 hl hin hlo
        refine ⟨w', ?_, hpost⟩
        have hsz : x'.cells.size = x.cells.toList.length := by rw [hl.length]; simp
        simp [Instr.storeAt, Instr.sureAddr, storeVar, run_sizeP hsize, hsz, hrun]
      · cases hs
    · cases hs
  · cases hs

/-- A new row, all of whose cells are known. -/
theorem row_ok (h : HRel P ρ H w) (ty : TypeId) {n : Nat} (hn : sizeP P ty = some n) {l l' : List Value} (hl : All2 (C1 ρ) l l') :
    Post P ρ H w (ρ.put H.length l.length ⟨w.heap.size, 0, l.length, n⟩) (rowD H ty l) (w.alloc (.cells l'.toArray ty)) := by
  rw [rowD_eq]
  have hno : ∀ f, ρ H.length f = none := fun f => by
    cases hh : ρ H.length f with
    | none => rfl
    | some q => exact absurd (h.dom _ _ _ hh).1 (Nat.lt_irrefl _)
  refine Post.new h _ _ l.length ⟨w.heap.size, 0, l.length, n⟩ rfl ?_ (fun _ _ _ e => by cases e) (fun _ e => by cases e)
  intro cs ty2 rw2 lo ver e
  injection e with e1 e2 e3 e4 e5
  subst e1 e2 e3 e4 e5
  refine ⟨rfl, Nat.le_refl _, hn, by simp, l'.toArray, ty, (0, 0), heap_alloc_new _ _, by simp [hl.length], fun _ => rfl, fun _ i c hi _ hc => ?_⟩
  obtain ⟨c', hc', hr⟩ := hl.get i c hc
  exact ⟨c', by simpa [Place.at] using hc', hr.mono (.put (hno _))⟩

theorem new_ok (h : HRel P ρ H w) {t : TypeId} {v v' r : Value} {H' : Heap} (hs : newD P H t v = some (r, H')) (hv : V ρ v v') :
    ∃ ρ' r' w', (do pure (Value.pointer (some (← newVar t v'))) : Sem Value).run P w = .ok r' w' ∧ Post P ρ H w ρ' H' w' ∧ V ρ' r r' := by
  unfold newD at hs
  simp only at hs
  split at hs
  · rename_i hcond
    simp only [Bool.and_eq_true, beq_iff_eq] at hcond
    obtain ⟨hone, hsz⟩ := hcond
    injection (Option.some.inj hs) with e1 e2
    subst e1 e2
    have hl := hv.cells hone
    have hpost := row_ok h t hsz hl
    refine ⟨_, .pointer (some ⟨w.heap.size, 0, none⟩), _, ?_, hpost, .v1 (.c1 (.c0 ?_))⟩
    · simp [newVar, newRow]
    · have := C0.ptr (ρ := ρ.put H.length v.cells.toList.length ⟨w.heap.size, 0, v.cells.toList.length, v.cells.toList.length⟩) (A := H.length) (i := 0) (e := v.cells.toList.length) (Rho.put_same _ _ _ _) (by simp)
      simpa [Place.at] using this
  · cases hs

/-! ### Building -/
theorem foldl_set_ok {vs vs' : List Value} (off : Nat) (hv : All2 (C1 ρ) vs vs') : ∀ (k : Nat) (cs cs' : Array Value), All2 (C1 ρ) cs.toList cs'.toList →
    All2 (C1 ρ) ((vs.zipIdx k).foldl (fun (cs : Array Value) (c, j) => cs.setIfInBounds (off + j) c) cs).toList ((vs'.zipIdx k).foldl (fun (cs : Array Value) (c, j) => cs.setIfInBounds (off + j) c) cs').toList := by
  induction vs generalizing vs' with
  | nil => intro k cs cs' hc; cases vs' with | nil => exact hc | cons => exact hv.elim
  | cons a vs ih =>
    intro k cs cs' hc
    cases vs' with
    | nil => exact hv.elim
    | cons b vs' =>
      simp only [List.zipIdx_cons, List.foldl_cons]
      refine ih hv.2 _ _ _ ?_
      simp only [Array.toList_setIfInBounds]
      exact hc.set hv.1 _

/-- Parts that correspond. -/
def Parts (ρ : Rho) : List (Nat × Value) → List (Nat × Value) → Prop := All2 fun a b => b.1 = a.1 ∧ V ρ a.2 b.2

theorem V.cells_size {v v' : Value} (h : V ρ v v') : v'.cells.size = v.cells.size := by
  cases h with
  | v1 h => cases h with
    | agg h => simpa [Value.cells] using h.length.symm
    | c1 h =>
      have : v.cells.toList = [v] ∧ v'.cells.toList = [v'] := by
        cases h with
        | c0 h => cases h with
          | flat h => cases v <;> first | exact ⟨rfl, rfl⟩ | simp [scalar] at h
          | _ => exact ⟨rfl, rfl⟩
        | _ => exact ⟨rfl, rfl⟩
      rw [← Array.length_toList, ← Array.length_toList, this.1, this.2]; rfl
  | tuple h => rfl

/-- Of a value that is put into cells: its cells. A tuple is never. -/
theorem fill_ok (place : Nat → Option (Nat × Nat)) : ∀ (ps ps' : List (Nat × Value)), Parts ρ ps ps' → (∀ x ∈ ps, x.2.cells.toList.all oneCell = true) → ∀ (cs cs' : Array Value) (r : Array Value),
    All2 (C1 ρ) cs.toList cs'.toList → Instr.fill place cs ps = some r → ∃ r', Instr.fill place cs' ps' = some r' ∧ All2 (C1 ρ) r.toList r'.toList
  | [], [], _, _, cs, cs', r, hc, hf => by
    simp only [Instr.fill, Option.some.injEq] at hf; subst hf
    exact ⟨cs', rfl, hc⟩
  | (i, v) :: ps, (i', v') :: ps', ⟨⟨hi, hv⟩, hps⟩, h1, cs, cs', r, hc, hf => by
    simp only at hi hv; subst hi
    simp only [Instr.fill] at hf ⊢
    cases hp : place i' with
    | none => rw [hp] at hf; cases hf
    | some os =>
      obtain ⟨off, size⟩ := os
      rw [hp] at hf
      simp only at hf ⊢
      have hsz := hv.cells_size
      have hcs : cs'.size = cs.size := by simpa using hc.length.symm
      split at hf
      · cases hf
      · rename_i hcond
        rw [if_neg (by rw [hsz, hcs]; exact hcond)]
        refine fill_ok place ps ps' hps (fun x hx => h1 x (by simp [hx])) _ _ _ ?_ hf
        have := foldl_set_ok off (hv.cells (h1 (i', v) (by simp))) 0 cs cs' hc
        have e : ∀ (a : Array Value) (b : Array Value), (a.zipIdx.foldl (fun cs (c, j) => cs.setIfInBounds (off + j) c) b) = ((a.toList.zipIdx 0).foldl (fun (cs : Array Value) (c, j) => cs.setIfInBounds (off + j) c) b) := fun a b => by
          rw [← Array.foldl_toList]; simp
        rw [e, e]; exact this
  | [], _ :: _, h, _, _, _, _, _, _ => h.elim
  | _ :: _, [], h, _, _, _, _, _, _ => h.elim
end
end Go.Ds
