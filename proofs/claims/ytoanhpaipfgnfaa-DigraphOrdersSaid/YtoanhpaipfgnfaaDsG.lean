/-
  Ds against the model: new slices, append, copy, cuts.
-/
import Derived.Test.YtoanhpaipfgnfaaDsF
set_option linter.unusedVariables false
set_option linter.unusedSimpArgs false
namespace Go.Ds
section
variable {P : Program} {ρ : Rho} {H : Heap} {w : World}

theorem rho_none (h : HRel P ρ H w) (f : Nat) : ρ H.length f = none := by
  cases hh : ρ H.length f with
  | none => rfl
  | some q => exact absurd (h.dom _ _ _ hh).1 (Nat.lt_irrefl _)

/-- A slice over a new row of len elements. -/
theorem newSlice_ok (h : HRel P ρ H w) {elem : TypeId} {size len : Nat} (hs : sizeP P elem = some size) {l l' : List Value} (hl : All2 (C1 ρ) l l') (hlen : len * size = l.length) :
    ∃ ρ', Post P ρ H w ρ' (rowD H elem l) (w.alloc (.cells l'.toArray elem)) ∧ V ρ' (.slice (some ⟨H.length, 0, some l.length⟩) len size) (.slice (some ⟨w.heap.size, 0, none⟩) len len) :=
  ⟨_, row_ok h elem hs hl, slice_new hlen (Rho.put_same _ _ _ _)⟩

theorem sizes_of {t : TypeId} {n b : Nat} {z : Value} (h1 : sizeP P t = some n) (h2 : bytesP P t = some b) (h3 : zeroP P t = some z) : ∃ i, P.info? t = some i ∧ i.size = n ∧ i.bytes = b ∧ i.zero = some z := by
  unfold sizeP at h1; unfold bytesP at h2; unfold zeroP at h3
  cases hi : P.info? t with
  | none => rw [hi] at h1; cases h1
  | some i => rw [hi] at h1 h2 h3; exact ⟨i, rfl, Option.some.inj h1, Option.some.inj h2, h3⟩

/-- The source of an append or a copy: n elements, read whatever the draws. -/
structure SrcOk (P : Program) (w : World) (size n : Nat) (x : Value) (l : List Value) : Prop where
  len : ∀ w2 : World, (Builtin.lenOf x).run P w2 = .ok n w2
  cells : ∀ w2 : World, w2.heap = w.heap → (Builtin.firstCells size n x).run P w2 = .ok l.toArray w2
  size : l.length = n * size

theorem cell?_heap {w w2 : World} (h : w2.heap = w.heap) (a : Addr) : w2.cell? a = w.cell? a := by simp [World.cell?, h]

theorem firstCells_ok (h : HRel P ρ H w) {A i e n size k c : Nat} {l : List Value} {p : Place} {a : Addr} (hc : cellsAt H A i e (n * size) = some l) (hp : ρ A e = some p) (h0 : 0 ≤ (i : Int) + p.d)
    (ha : a = ⟨p.b, p.at i, none⟩ ∨ n = 0) :
    ∃ l', All2 (C1 ρ) l l' ∧ l.length = n * size ∧ i + n * size ≤ e ∧ ∀ w2 : World, w2.heap = w.heap → (Builtin.firstCells size n (.slice (some a) k c)).run P w2 = .ok l'.toArray w2 := by
  obtain ⟨l', hall, hlen, hin, hcell⟩ := cells_ok h hc hp h0
  refine ⟨l', hall, hlen, hin, fun w2 hw => ?_⟩
  rcases ha with rfl | rfl
  · exact run_firstCells_some w2 size n _ k c l' (by rw [← hall.length, hlen]) fun j v hv => by rw [cell?_heap hw]; exact hcell j v hv
  · have : l' = [] := List.length_eq_zero_iff.1 (by rw [← hall.length, hlen]; simp)
    subst this
    exact run_firstCells_some w2 size 0 _ k c [] (by simp) (fun j v hv => by simp at hv)

/-- An append that finds room. -/
theorem run_app_room {st xt elem : TypeId} {d : TypeDesc} {size n sLen sCap : Nat} {a : Addr} {x : Value} {l : List Value} (hst : P.underlying st = some (.slice elem)) (hxt : P.underlying xt = some d)
    (hd : notInt d = true) (hs : sizeP P elem = some size) (hx : SrcOk P w size n x l) (hroom : sLen + n ≤ sCap) (ty : TypeId) {w' : World}
    (hw : (storeCells (a.add (sLen * size)) l).run P w = .ok () w') :
    (Builtin.append_ #[st, xt] ty #[.slice (some a) sLen sCap, x]).run P w = .ok (.slice (some a) (sLen + n) sCap) w' := by
  unfold Builtin.append_
  simp only [List.getElem?_toArray, List.getElem?_cons_zero, List.getElem?_cons_succ, Sem.run_bind, run_underlying hst, run_sizeP hs, run_underlying hxt, Result.andThen_ok, Sem.run_pure]
  cases d <;> first
    | (simp [notInt] at hd; done)
    | simp [hx.len, hroom, hx.cells w rfl, hw]

/-- An append that makes a new row. -/
theorem run_app_grow {st xt elem : TypeId} {d : TypeDesc} {i : TypeInfo} {z : Value} {n sLen sCap : Nat} {base : Option Addr} {x : Value} {l olds : List Value} (hst : P.underlying st = some (.slice elem)) (hxt : P.underlying xt = some d)
    (hd : notInt d = true) (hi : P.info? elem = some i) (hz0 : i.zero = some z) (hx : SrcOk P w i.size n x l) (hroom : sCap < sLen + n) (ty : TypeId)
    (hold : ∀ w2 : World, w2.heap = w.heap → (Builtin.firstCells i.size sLen (.slice base sLen sCap)).run P w2 = .ok olds.toArray w2)
    (hmax : (sLen + n) * (i.bytes + 1) ≤ roomD) :
    ∃ m, sLen + n ≤ m ∧ (Builtin.append_ #[st, xt] ty #[.slice base sLen sCap, x]).run P w = .ok (.slice (some ⟨w.heap.size, 0, none⟩) (sLen + n) m) (w.drew.alloc (.cells (olds.toArray ++ (l.toArray ++ Builtin.zeroCells z.cells (m - (sLen + n)))) elem)) := by
  have hr : roomD = 17592186044416 := by decide
  rw [hr] at hmax
  have hn : sLen + n ≤ 17592186044416 := Nat.le_trans (Nat.le_mul_of_pos_right _ (by omega)) hmax
  have hb : (sLen + n) * i.bytes ≤ 17592186044416 := Nat.le_trans (Nat.mul_le_mul_left _ (by omega)) hmax
  have hfit := growslice_fits (need := sLen + n) (old := sCap) (bytes := i.bytes) hroom (by omega)
  have hn1 : ¬ (sLen + n ≤ sCap) := by omega
  have hn2 : ¬ (9223372036854775807 < ((sLen : Int) + (n : Int))) := by omega
  have hn3 : ¬ (281474976710656 < Builtin.nextslicecap (sLen + n) sCap * i.bytes) := by omega
  refine ⟨grownCap w (sLen + n) sCap elem, ?_, ?_⟩
  · unfold grownCap Question.cut; simp only; omega
  · unfold Builtin.append_
    have hsz : ∀ w2 : World, (sizeOf elem).run P w2 = .ok i.size w2 := fun w2 => run_sizeP (by simp [sizeP, hi]) w2
    simp only [List.getElem?_toArray, List.getElem?_cons_zero, List.getElem?_cons_succ, Sem.run_bind, run_underlying hst, hsz, run_underlying hxt, Result.andThen_ok, Sem.run_pure]
    have hold' := hold w.drew rfl
    have hx' := hx.cells w.drew rfl
    cases d <;> first
    | (simp [notInt] at hd; done)
    | simp [hx.len, hn1, hn2, hn3, typeInfo, hi, Question.forced, hold', hx', zeroValue, hz0, newRow, grownCap]

theorem size_zeroCells (z : Array Value) (n : Nat) : (Builtin.zeroCells z n).size = n * z.size := by simp [Builtin.zeroCells]

theorem srcNew_ok (h : HRel P ρ H w) {size n : Nat} {l : List Value} {x x' : Value} (hx : V ρ x x') (hn : srcNew H size x = some (n, l)) : ∃ l', All2 (C1 ρ) l l' ∧ SrcOk P w size n x' l' := by
  unfold srcNew at hn
  split at hn
  · injection (Option.some.inj hn) with e1 e2
    subst e1 e2
    rcases hx.slice_any with ⟨_, _, _, rfl⟩ | ⟨A, j, e, p, c', a, hh, _⟩
    · exact ⟨[], trivial, fun _ => rfl, fun _ _ => run_firstCells_none _ _ _ _ _, by simp⟩
    · cases hh
  · rename_i A j e k c
    obtain ⟨p, c', a, hp, h0, _, _, ha, _, rfl⟩ := hx.slice_inv
    cases hc : cellsAt H A j e (k * size) with
    | none => rw [hc] at hn; cases hn
    | some l0 =>
      rw [hc] at hn
      injection (Option.some.inj hn) with e1 e2
      subst e1 e2
      obtain ⟨l', hall, hlen, _, hrun⟩ := firstCells_ok (k := k) (c := c') h hc hp h0 (ha.imp And.left And.left)
      exact ⟨l', hall, fun _ => rfl, hrun, by rw [← hall.length, hlen]⟩
  · rename_i b
    have hx' : x' = .string b := hx.eq_of_flat rfl
    subst hx'
    split at hn
    · rename_i h1
      simp only [beq_iff_eq] at h1
      injection (Option.some.inj hn) with e1 e2
      subst e1 e2
      refine ⟨_, All2.same fun v hv => ?_, fun _ => rfl, fun w2 _ => ?_, by subst h1; simp⟩
      · simp only [List.mem_map] at hv
        obtain ⟨u, _, rfl⟩ := hv
        exact .of_scalar rfl
      · simp only [Builtin.firstCells]
        have e : b.extract 0 b.size = b := by simp
        rw [e]
        simp only [Sem.run_pure]
        congr 1
        apply Array.ext'
        simp
    · cases hn
  · cases hn

theorem appendD_ok (h : HRel P ρ H w) {st xt : TypeId} {d : TypeDesc} {s s' x x' r : Value} {H' : Heap} (ty : TypeId) (ha : appendD P H st s x = some (r, H')) (hxt : P.underlying xt = some d) (hd : notInt d = true)
    (hs : V ρ s s') (hx : V ρ x x') : ∃ ρ' r' w', (Builtin.append_ #[st, xt] ty #[s', x']).run P w = .ok r' w' ∧ Post P ρ H w ρ' H' w' ∧ V ρ' r r' := by
  unfold appendD at ha
  simp only [Option.bind_eq_some_iff] at ha
  obtain ⟨elem, he, size, hsz, bytes, hby, z, hze, ⟨n, l⟩, hnew, ha⟩ := ha
  have hst := sliceElem_some he
  obtain ⟨i, hi, hisz, hiby, hiz⟩ := sizes_of hsz hby hze
  obtain ⟨l', hl, hso⟩ := srcNew_ok h hx hnew
  have hln : l.length = n * size := by rw [hl.length, hso.size]
  subst hisz hiby
  simp only at ha
  split at ha
  · -- append to nil
    rename_i k c
    split at ha
    · rename_i hc
      simp only [Bool.and_eq_true, beq_iff_eq, bne_iff_ne, decide_eq_true_eq] at hc
      obtain ⟨⟨⟨⟨rfl, rfl⟩, hs0⟩, hroom⟩, hzs⟩ := hc
      have hs' : s' = .slice none 0 0 := hs.eq_of_flat rfl
      subst hs'
      split at ha
      · rename_i hn0
        simp only [beq_iff_eq] at hn0
        subst hn0
        injection (Option.some.inj ha) with e1 e2
        subst e1 e2
        refine ⟨ρ, .slice none 0 0, w, ?_, .refl h, hs⟩
        have hlen0 := hso.len w
        have hc0 := hso.cells w rfl
        unfold Builtin.append_
        simp only [List.getElem?_toArray, List.getElem?_cons_zero, List.getElem?_cons_succ, Sem.run_bind, run_underlying hst, run_sizeP hsz, run_underlying hxt, Result.andThen_ok, Sem.run_pure]
        cases d <;> first
          | (simp [notInt] at hd; done)
          | simp [hlen0, hc0]
      · rename_i hn0
        simp only [beq_iff_eq] at hn0
        injection (Option.some.inj ha) with e1 e2
        subst e1 e2
        obtain ⟨m, hm, hrun⟩ := run_app_grow (sLen := 0) (sCap := 0) (base := none) (olds := []) hst hxt hd hi hiz hso (by omega) ty (fun w2 _ => run_firstCells_none _ _ _ _ _) (by simpa using hroom)
        simp only [Nat.zero_add] at hrun hm
        have hpost0 := Post.drew h
        have hle : ρ.Le (ρ.put H.length l.length ⟨w.heap.size, 0, m * i.size, i.size⟩) := .put (rho_none h _)
        have hmi : n * i.size ≤ m * i.size := Nat.mul_le_mul_right _ hm
        refine ⟨_, _, _, hrun, hpost0.trans (by
          rw [rowD_eq]
          refine Post.new hpost0.rel _ _ l.length ⟨w.heap.size, 0, m * i.size, i.size⟩ rfl ?_ (fun _ _ _ e => by cases e) (fun _ e => by cases e)
          intro cs ty2 rw2 lo ver e
          injection e with e1 e2 e3 e4 e5
          subst e1 e2 e3 e4 e5
          refine ⟨rfl, Nat.le_refl _, hsz, by simp only; omega, _, elem, (0, 0), heap_alloc_new _ _, ?_, fun _ => rfl, fun _ j c hj _ hcc => ?_⟩
          · simp only [Array.empty_append, Array.size_append, List.size_toArray, size_zeroCells, hzs, ← hl.length, hln]
            rw [← Nat.add_mul]; congr 1; omega
          · obtain ⟨c', hc', hr⟩ := hl.get j c hcc
            refine ⟨c', ?_, hr.mono hle⟩
            have hj' : j < l'.length := (List.getElem?_eq_some_iff.1 hc').1
            simp only [Array.empty_append, Place.at, Int.add_zero, Int.toNat_natCast]
            rw [Array.getElem?_append_left (by simpa using hj')]
            simpa using hc'), ?_⟩
        have := C0.slice (ρ := ρ.put H.length l.length ⟨w.heap.size, 0, m * i.size, i.size⟩) (A := H.length) (i := 0) (e := l.length) (n := n) (c' := m) (Rho.put_same _ _ _ _) (by simp) (by simp [hln]) hm (.inl ⟨rfl, by simp [Place.at]⟩)
        exact .v1 (.c1 (.c0 (by simpa [Place.at] using this)))
    · cases ha
  · -- append to a row
    rename_i A j e k c
    obtain ⟨p, c', a, hp, h0, hjk, hkc, hsz2, hck, rfl⟩ := hs.slice_inv
    split at ha
    · rename_i cs ty2 lo ver hg
      split at ha
      · rename_i hc
        simp only [Bool.and_eq_true, beq_iff_eq, bne_iff_ne, decide_eq_true_eq] at hc
        obtain ⟨⟨⟨⟨⟨⟨hs0, hroom⟩, hzs⟩, hty⟩, hjke⟩, rfl⟩, hlo⟩ := hc
        injection (Option.some.inj ha) with e1 e2
        subst e1 e2
        obtain ⟨_, hk, hfit, cur, ty', fr, hw, hcur, hfr, hcell⟩ := (h.cells _ _ _ _ _ _ hg).2 _ _ hp
        obtain rfl := hfr rfl
        have hpk : p.k = i.size := by rw [hty] at hk; exact (Option.some.inj hk).symm
        rw [appL_eq]
        by_cases hin : k + n ≤ c'
        · -- in place
          have hcapp : p.at j + (k + n) * i.size ≤ cur.size ∧ (a = ⟨p.b, p.at j, none⟩ ∨ (k + n = 0 ∧ c' = 0)) := by
            rcases hsz2 with ⟨ha, hs2⟩ | ⟨hk0, hc0⟩
            · refine ⟨?_, .inl ha⟩
              rw [hcur]
              have : (k + n) * i.size ≤ c' * p.k := by rw [hpk]; exact Nat.mul_le_mul_right _ hin
              omega
            · have : k + n = 0 := by omega
              refine ⟨?_, .inr ⟨this, hc0⟩⟩
              rw [this, hcur]; unfold Place.at; omega
          have hats : p.at j + k * i.size = p.at cs.length := by unfold Place.at; omega
          have hl' := hl.length
          have hcap : p.at j + (k + n) * i.size ≤ cur.size := hcapp.1
          have hcap' : p.at cs.length + l'.length ≤ cur.size := by
            rw [Nat.add_mul] at hcap; omega
          have hst2 := run_storeCells_at P p.b (p.at cs.length) ty' l' 0 cur w hw (by simpa using hcap') hl.oneCells
          simp only [Nat.add_zero] at hst2
          have hstw : (storeCells (a.add (k * i.size)) l').run P w = .ok () (w.setRow p.b (cur.toList.take (p.at cs.length) ++ l' ++ cur.toList.drop (p.at cs.length + l'.length)).toArray) := by
            rcases hcapp.2 with rfl | ⟨h00, _⟩
            · rw [addr_add, hats]; exact hst2
            · have : l' = [] := List.length_eq_zero_iff.1 (by
                have : n = 0 := by omega
                subst this; rw [← hl', hln]; simp)
              subst this
              simp only [storeCells] at hst2 ⊢
              exact hst2
          have hrun := run_app_room (P := P) (w := w) (a := a) (sLen := k) (sCap := c') hst hxt hd hsz hso hin ty hstw
          have hseg : ∀ (q : Nat), ((cur.toList.take (p.at cs.length) ++ l' ++ cur.toList.drop (p.at cs.length + l'.length)).toArray)[q]? = if p.at cs.length ≤ q ∧ q < p.at cs.length + l'.length then l'[q - p.at cs.length]? else cur[q]? := fun q => by
            have := seg_get cur.toList l' (p.at cs.length) q (by simpa using hcap')
            simpa using this
          have hsize : ((cur.toList.take (p.at cs.length) ++ l' ++ cur.toList.drop (p.at cs.length + l'.length)).toArray).size = cur.size := by
            simp; omega
          revert hrun
          generalize (cur.toList.take (p.at cs.length) ++ l' ++ cur.toList.drop (p.at cs.length + l'.length)).toArray = new at hseg hsize
          intro hrun
          have hcsd : 0 ≤ (cs.length : Int) + p.d := by omega
          by_cases hl0 : l = []
          · subst hl0
            have hn0 : n = 0 := by
              rcases Nat.eq_zero_or_pos n with h1 | h1
              · exact h1
              · have := Nat.mul_pos h1 (Nat.pos_of_ne_zero hs0); simp at hln; omega
            subst hn0
            have hl0' : l' = [] := List.length_eq_zero_iff.1 (by rw [← hl']; rfl)
            subst hl0'
            refine ⟨ρ, _, _, hrun, ?_, ?_⟩
            · have hnew : new = cur := by
                apply Array.ext_getElem?
                intro q; rw [hseg]; rw [if_neg (by simp)]
              rw [hnew, setRow_self w p.b cur ty' (0, 0) hw, List.append_nil]
              have hsame : hset H A (.cells cs ty2 true lo ver) = H := hset_self hg
              rw [hsame]
              exact .refl h
            · rw [hck, hpk] at hs; simpa using hs
          · have hno : ρ A (cs.length + l.length) = none := by
              cases hh : ρ A (cs.length + l.length) with
              | none => rfl
              | some q => have := ((h.cells _ _ _ _ _ _ hg).2 _ _ hh).le; have := List.length_pos_iff.2 hl0; omega
            have hle : ρ.Le (ρ.put A (cs.length + l.length) p) := .put hno
            refine ⟨ρ.put A (cs.length + l.length) p, _, _, hrun, ?_, ?_⟩
            · refine Post.upd h _ hg rfl hp hle (fun B f q hq => ?_) (setRow_size _ _ _) (fun b hb => setRow_other _ _ _ _ hb) rfl rfl rfl ?_ (fun _ _ _ e => by cases e) (fun _ e => by cases e) (fun _ _ _ => .inl rfl)
                (fun r hr => by rw [hw] at hr; cases hr)
              · by_cases hh : B = A ∧ f = cs.length + l.length
                · obtain ⟨rfl, rfl⟩ := hh; rw [Rho.put_same] at hq; obtain rfl := Option.some.inj hq; exact .inr ⟨rfl, rfl, rfl⟩
                · rw [Rho.put_ne hh] at hq; exact .inl hq
              · intro cs2 ty3 rw2 lo2 ver2 e
                injection e with e1 e2 e3 e4 e5
                subst e1 e2 e3 e4 e5
                refine ⟨⟨p, by rw [List.length_append, Rho.put_same]⟩, fun f q hq => ?_⟩
                -- what the new row holds
                have hnewcell : ∀ (f : Nat), (f ≤ cs.length ∨ True) → ∀ (m : Nat) cc, 0 ≤ (m : Int) + p.d → (cs ++ l)[m]? = some cc → ∃ c', new[p.at m]? = some c' ∧ C1 ρ cc c' := fun _ _ m cc hm0 hcc => by
                  rw [hseg]
                  by_cases hm : m < cs.length
                  · rw [List.getElem?_append_left hm] at hcc
                    obtain ⟨c', hc', hr⟩ := hcell hlo m cc hm hm0 hcc
                    exact ⟨c', by rw [if_neg (by unfold Place.at; omega)]; exact hc', hr⟩
                  · rw [List.getElem?_append_right (by omega)] at hcc
                    obtain ⟨c', hc', hr⟩ := hl.get _ _ hcc
                    have hlt := (List.getElem?_eq_some_iff.1 hc').1
                    have hatm : p.at m = p.at cs.length + (m - cs.length) := by unfold Place.at; omega
                    exact ⟨c', by rw [if_pos (by omega), hatm]; simpa using hc', hr⟩
                by_cases hh : f = cs.length + l.length
                · subst hh
                  rw [Rho.put_same] at hq
                  obtain rfl := Option.some.inj hq
                  refine ⟨by simp, hk, by unfold Place.at at hcap'; omega, new, ty', (0, 0), setRow_heap w p.b cur new ty' (0, 0) hw, by rw [hsize, hcur], fun _ => rfl, fun _ m cc _ hm0 hcc => ?_⟩
                  obtain ⟨c', a, b⟩ := hnewcell 0 (.inr trivial) m cc hm0 hcc
                  exact ⟨c', a, b.mono hle⟩
                · rw [Rho.put_ne (by simp [hh])] at hq
                  obtain ⟨q1, q2, q3, qcur, qty, qfr, q4, q5, q6, q7⟩ := (h.cells _ _ _ _ _ _ hg).2 _ _ hq
                  by_cases hqb : q.b = p.b
                  · have hqd : q.d = p.d := (h.excl _ _ _ _ _ _ _ hp hq hqb.symm hg rfl).2
                    rw [hqb, hw] at q4
                    injection (Option.some.inj q4) with e1 e2 e3
                    subst e1 e2 e3
                    refine ⟨by simp; omega, q2, q3, new, ty', (0, 0), by rw [hqb]; exact setRow_heap w p.b cur new ty' (0, 0) hw, by rw [hsize]; exact q5, fun _ => rfl, fun _ m cc _ hm0 hcc => ?_⟩
                    have hat : q.at m = p.at m := by unfold Place.at; rw [hqd]
                    obtain ⟨c', a, b⟩ := hnewcell 0 (.inr trivial) m cc (by rw [← hqd]; exact hm0) hcc
                    exact ⟨c', by rw [hat]; exact a, b.mono hle⟩
                  · exact (CellsAt.world hle (setRow_other _ _ _ _ hqb) ⟨q1, q2, q3, qcur, qty, qfr, q4, q5, q6, q7⟩).grow l
            · have hke : k * i.size + n * i.size = (k + n) * i.size := by rw [Nat.add_mul]
              have := C0.slice (ρ := ρ.put A (cs.length + l.length) p) (A := A) (i := j) (e := cs.length + l.length) (n := k + n) (c' := c') (p := p) (Rho.put_same _ _ _ _) h0 (by rw [hpk, ← hke]; omega) hin (hsz2.imp id fun q => ⟨by omega, q.2⟩)
              rw [hpk] at this
              exact .v1 (.c1 (.c0 this))
        · -- a new row
          obtain ⟨p1, p2, p3, cur2, ty3, fr3, p4, p5, p6, p7⟩ := (h.cells _ _ _ _ _ _ hg).2 _ _ hp
          have hca : cellsAt H A j cs.length (k * i.size) = some ((cs.drop j).take (k * i.size)) := by
            unfold cellsAt
            rw [hg]
            simp only [Bool.and_eq_true, decide_eq_true_eq]
            rw [if_pos (by omega)]
          obtain ⟨olds, hold, hollen, _, hofc⟩ := firstCells_ok (k := k) (c := c') h hca hp h0 (hsz2.imp And.left And.left)
          obtain ⟨m, hm, hrun⟩ := run_app_grow (sLen := k) (sCap := c') (base := some a) (olds := olds) hst hxt hd hi hiz hso (by omega) ty hofc hroom
          have hpost0 := Post.drew h
          have hl' := hl.length
          have hol' := hold.length
          have hkm : (k + n) * i.size ≤ m * i.size := Nat.mul_le_mul_right _ hm
          rw [Nat.add_mul] at hkm
          have hn0 : n ≠ 0 := by omega
          have hl0 : l ≠ [] := by
            intro hl0; subst hl0
            have := Nat.mul_pos (Nat.pos_of_ne_zero hn0) (Nat.pos_of_ne_zero hs0); simp at hln; omega
          have hno : ρ A (cs.length + l.length) = none := by
            cases hh : ρ A (cs.length + l.length) with
            | none => rfl
            | some q => have := ((h.cells _ _ _ _ _ _ hg).2 _ _ hh).le; have := List.length_pos_iff.2 hl0; omega
          have hle : ρ.Le (ρ.put A (cs.length + l.length) ⟨w.heap.size, -(j : Int), m * i.size, i.size⟩) := .put hno
          refine ⟨_, _, _, hrun, hpost0.trans (Post.regrow hpost0.rel l _ ⟨w.heap.size, -(j : Int), m * i.size, i.size⟩ hg hl0 rfl ?_), ?_⟩
          · refine ⟨by simp, hty ▸ rfl, by simp only; omega, _, elem, (0, 0), heap_alloc_new _ _, ?_, fun _ => rfl, fun _ q cc hq hq0 hcc => ?_⟩
            · simp only [Array.size_append, List.size_toArray, size_zeroCells, hzs, ← hl', ← hol', hollen, hln]
              rw [← Nat.add_assoc, ← Nat.add_mul, ← Nat.add_mul]; congr 1; omega
            · simp only at hq0
              have hat : Place.at ⟨w.heap.size, -(j : Int), m * i.size, i.size⟩ q = q - j := by unfold Place.at; simp only; omega
              rw [hat]
              by_cases hqc : q < cs.length
              · rw [List.getElem?_append_left hqc] at hcc
                have : ((cs.drop j).take (k * i.size))[q - j]? = some cc := by
                  rw [List.getElem?_take_of_lt (by omega), List.getElem?_drop]
                  have : j + (q - j) = q := by omega
                  rw [this]; exact hcc
                obtain ⟨c1, hc1, hr⟩ := hold.get _ _ this
                have hlt := (List.getElem?_eq_some_iff.1 hc1).1
                refine ⟨c1, ?_, hr.mono hle⟩
                rw [Array.getElem?_append_left (by simpa using hlt)]
                simpa using hc1
              · rw [List.getElem?_append_right (by omega)] at hcc
                obtain ⟨c1, hc1, hr⟩ := hl.get _ _ hcc
                have hlt := (List.getElem?_eq_some_iff.1 hc1).1
                refine ⟨c1, ?_, hr.mono hle⟩
                rw [Array.getElem?_append_right (by simp; omega), Array.getElem?_append_left (by simp; omega)]
                simp only [List.size_toArray, List.getElem?_toArray]
                have : q - j - olds.length = q - cs.length := by omega
                rw [this]; exact hc1
          · have := C0.slice (ρ := ρ.put A (cs.length + l.length) ⟨w.heap.size, -(j : Int), m * i.size, i.size⟩) (A := A) (i := j) (e := cs.length + l.length) (n := k + n) (c' := m) (Rho.put_same _ _ _ _) (by simp only; omega) (by simp only [Nat.add_mul]; omega) hm (.inl ⟨rfl, by unfold Place.at; simp only; omega⟩)
            refine .v1 (.c1 (.c0 ?_))
            have e0 : Place.at ⟨w.heap.size, -(j : Int), m * i.size, i.size⟩ j = 0 := by unfold Place.at; simp only; omega
            rw [e0] at this
            exact this
      · cases ha
    · cases ha
  · cases ha
end
end Go.Ds
