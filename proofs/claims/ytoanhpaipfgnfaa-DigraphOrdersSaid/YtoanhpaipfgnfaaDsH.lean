/-
  Ds against the model: copy, cuts, make, and every operation that calls nothing.
-/
import Derived.Test.YtoanhpaipfgnfaaDsG
import Derived.Orders
set_option linter.unusedVariables false
set_option linter.unusedSimpArgs false
namespace Go.Ds
section
variable {P : Program} {ρ : Rho} {H : Heap} {w : World}

theorem srcD_ok (h : HRel P ρ H w) {size n : Nat} {l : List Value} {x x' : Value} (hx : V ρ x x') (hn : srcD H size n x = some l) :
    ∃ l', All2 (C1 ρ) l l' ∧ (Builtin.firstCells size n x').run P w = .ok l'.toArray w := by
  unfold srcD at hn
  split at hn
  · split at hn
    · obtain rfl := Option.some.inj hn
      rcases hx.slice_any with ⟨_, _, _, rfl⟩ | ⟨A, j, e, p, c', a, hh, _⟩
      · exact ⟨[], trivial, run_firstCells_none _ _ _ _ _⟩
      · cases hh
    · cases hn
  · rename_i A j e k c
    split at hn
    · rename_i hnk
      obtain ⟨p, c', a, hp, h0, _, _, ha, _, rfl⟩ := hx.slice_inv
      obtain ⟨l', hall, _, _, hrun⟩ := firstCells_ok (k := k) (c := c') h hn hp h0 (ha.imp And.left (fun q => by have := q.1; omega))
      exact ⟨l', hall, hrun w rfl⟩
    · cases hn
  · rename_i b
    have hx' : x' = .string b := hx.eq_of_flat rfl
    subst hx'
    split at hn
    · rename_i hc
      simp only [Bool.and_eq_true, beq_iff_eq, decide_eq_true_eq] at hc
      obtain rfl := Option.some.inj hn
      refine ⟨_, All2.same fun v hv => ?_, ?_⟩
      · simp only [List.mem_map] at hv
        obtain ⟨u, _, rfl⟩ := hv
        exact .of_scalar rfl
      · simp only [Builtin.firstCells, Sem.run_pure]
        congr 1
        apply Array.ext'
        simp [ByteArray.data_extract]
    · cases hn
  · cases hn

theorem lenNat_ok {x x' : Value} (hx : V ρ x x') {m : Nat} (h : lenNat x = some m) : (Builtin.lenOf x').run P w = .ok m w := by
  unfold lenNat at h
  split at h
  · rename_i a n c
    obtain rfl := Option.some.inj h
    rcases hx.slice_any with ⟨_, hn, _, rfl⟩ | ⟨A, j, e, p, c', a, hh, _, _, _, _, _, _, rfl⟩
    · simp [Builtin.lenOf, hn]
    · simp [Builtin.lenOf]
  · rename_i s
    obtain rfl := Option.some.inj h
    have : x' = .string s := hx.eq_of_flat rfl
    subst this
    simp [Builtin.lenOf]
  · cases h

theorem copyD_ok (h : HRel P ρ H w) {dt xt : TypeId} {d d' x x' r : Value} {H' : Heap} (ty : TypeId) (hc : copyD P H dt d x = some (r, H')) (hd : V ρ d d') (hx : V ρ x x') :
    ∃ r' w', (Builtin.copy_ #[dt, xt] ty #[d', x']).run P w = .ok r' w' ∧ Post P ρ H w ρ H' w' ∧ V ρ r r' := by
  unfold copyD at hc
  simp only [Option.bind_eq_some_iff] at hc
  obtain ⟨elem, he, size, hsz, m, hm, hc⟩ := hc
  have hst := sliceElem_some he
  have hlen : (Builtin.lenOf x').run P w = .ok m w := lenNat_ok hx hm
  split at hc
  · rename_i k c
    split at hc
    · rename_i hk
      simp only [beq_iff_eq] at hk
      subst hk
      injection (Option.some.inj hc) with e1 e2
      subst e1 e2
      rcases hd.slice_any with ⟨_, _, _, rfl⟩ | ⟨A, j, e, p, c', a, hh, _⟩
      · refine ⟨goInt 0, w, ?_, .refl h, .of_flat rfl⟩
        have hf : (Builtin.firstCells size 0 x').run P w = .ok #[] w := by
          unfold lenNat at hm
          split at hm
          · rename_i a n c
            rcases hx.slice_any with ⟨_, _, _, rfl⟩ | ⟨A, j, e, p, c', a, hh, _, _, _, _, _, _, rfl⟩
            · exact run_firstCells_none _ _ _ _ _
            · exact run_firstCells_some w size 0 _ _ _ [] (by simp) (fun j v hv => by simp at hv)
          · rename_i s
            have : x' = .string s := hx.eq_of_flat rfl
            subst this
            simp [Builtin.firstCells]
          · cases hm
        unfold Builtin.copy_
        simp [run_underlying hst, hlen, run_sizeP hsz, hf]
      · cases hh
    · cases hc
  · rename_i A i e k c
    obtain ⟨p, c', a, hp, h0, _, _, ha, _, rfl⟩ := hd.slice_inv
    split at hc
    · rename_i hn0
      simp only [beq_iff_eq] at hn0
      injection (Option.some.inj hc) with e1 e2
      subst e1 e2
      refine ⟨goInt 0, w, ?_, .refl h, .of_flat rfl⟩
      have hf : (Builtin.firstCells size 0 x').run P w = .ok #[] w := by
        unfold lenNat at hm
        split at hm
        · rcases hx.slice_any with ⟨_, _, _, rfl⟩ | ⟨A, j, e, p, c', a, hh, _, _, _, _, _, _, rfl⟩
          · exact run_firstCells_none _ _ _ _ _
          · exact run_firstCells_some w size 0 _ _ _ [] (by simp) (fun j v hv => by simp at hv)
        · rename_i s
          have : x' = .string s := hx.eq_of_flat rfl
          subst this
          simp [Builtin.firstCells]
        · cases hm
      have hn0' : min m k = 0 := hn0
      unfold Builtin.copy_
      simp [run_underlying hst, hlen, run_sizeP hsz, hn0', hf, storeCells]
    rename_i hn0
    simp only [beq_iff_eq] at hn0
    have ha' : a = ⟨p.b, p.at i, none⟩ := by
      rcases ha with ha | ha
      · exact ha.1
      · exact absurd (by rw [ha.1]; exact Nat.min_zero m) hn0
    subst ha'
    simp only [Option.bind_eq_some_iff] at hc
    obtain ⟨l, hl, hc⟩ := hc
    obtain ⟨l', hall, hf⟩ := srcD_ok h hx hl
    split at hc
    · rename_i cs ty2 lo ver hg
      split at hc
      · rename_i hcond
        simp only [Bool.and_eq_true, beq_iff_eq, decide_eq_true_eq] at hcond
        obtain ⟨⟨rfl, hin⟩, hlo⟩ := hcond
        injection (Option.some.inj hc) with e1 e2
        subst e1 e2
        obtain ⟨w', hrun, hpost⟩ := write_ok h (ver + 1) hg hp h0 hall hin hlo
        refine ⟨_, w', ?_, hpost, .of_flat rfl⟩
        unfold Builtin.copy_
        simp [run_underlying hst, hlen, run_sizeP hsz, hf, hrun]
      · cases hc
    · cases hc
  · cases hc

theorem natOf_ok {v v' : Value} {n : Nat} (hv : V ρ v v') (h : natOf v = some n) : ∃ k, v = .int k n ∧ v' = .int k n := by
  unfold natOf at h
  split at h
  · rename_i k m
    split at h
    · rename_i h0
      obtain rfl := Option.some.inj h
      have e : ((m.toNat : Nat) : Int) = m := Int.toNat_of_nonneg h0
      exact ⟨k, by rw [e], by rw [e]; exact hv.eq_of_flat rfl⟩
    · cases h
  · cases h

theorem bound_ok {k : IntKind} {n y : Nat} (h : n ≤ y) (code : BoundsCode) (w : World) : (Instr.sliceBound (.int k n) y code).run P w = .ok n w := by
  unfold Instr.sliceBound
  simp only [asIntOf, Sem.run_bind, Sem.run_pure, Result.andThen_ok]
  rw [if_pos (by omega)]
  simp

theorem sliceD_ok (h : HRel P ρ H w) {t : TypeId} {x x' r : Value} {lo lo' hi hi' : Option Value} (hs : sliceD P t x lo hi = some r) (hx : V ρ x x')
    (hlo : match lo, lo' with | none, none => True | some a, some b => V ρ a b | _, _ => False) (hhi : match hi, hi' with | none, none => True | some a, some b => V ρ a b | _, _ => False) :
    ∃ r', (Instr.sliceAt t x' lo' hi' none).run P w = .ok r' w ∧ V ρ r r' := by
  unfold sliceD at hs
  simp only [Option.bind_eq_some_iff] at hs
  obtain ⟨elem, he, size, hsz, hs⟩ := hs
  have hst := sliceElem_some he
  split at hs
  · rename_i A i e n c _
    simp only [Option.bind_eq_some_iff] at hs
    obtain ⟨hh, h1, ll, h2, hs⟩ := hs
    obtain ⟨p, c', a, hp, h0, hin, hnc, hsz2, hck, rfl⟩ := hx.slice_inv
    split at hs
    · rename_i hc
      simp only [Bool.and_eq_true, decide_eq_true_eq, beq_iff_eq] at hc
      obtain ⟨⟨hlh, hhn⟩, hcs⟩ := hc
      obtain rfl := Option.some.inj hs
      -- the element's size is the place's
      have hk : p.k = size := hck ▸ hcs
      have hbounds : (Instr.sliceBounds true n c' lo' hi' none).run P w = .ok (ll, hh, c') w := by
        unfold Instr.sliceBounds
        cases hi with
        | none =>
          cases hi' with
          | some _ => exact hhi.elim
          | none =>
            simp only at h1
            obtain rfl := Option.some.inj h1
            cases lo with
            | none =>
              cases lo' with
              | some _ => exact hlo.elim
              | none => simp only at h2; obtain rfl := Option.some.inj h2; simp
            | some a =>
              cases lo' with
              | none => exact hlo.elim
              | some b =>
                obtain ⟨k, rfl, rfl⟩ := natOf_ok hlo h2
                simp [bound_ok hlh]
        | some a =>
          cases hi' with
          | none => exact hhi.elim
          | some b =>
            obtain ⟨k, rfl, rfl⟩ := natOf_ok hhi h1
            have hb : hh ≤ c' := by omega
            cases lo with
            | none =>
              cases lo' with
              | some _ => exact hlo.elim
              | none => simp only at h2; obtain rfl := Option.some.inj h2; simp [bound_ok hb]
            | some a =>
              cases lo' with
              | none => exact hlo.elim
              | some b =>
                obtain ⟨k', rfl, rfl⟩ := natOf_ok hlo h2
                simp [bound_ok hlh, bound_ok hb]
      have hb1 : ll * size ≤ hh * size := Nat.mul_le_mul_right _ hlh
      have hb2 : hh * size ≤ n * size := Nat.mul_le_mul_right _ hhn
      have hb3 : n * size ≤ c' * size := Nat.mul_le_mul_right _ hnc
      have hb4 : (hh - ll) * size = hh * size - ll * size := Nat.sub_mul _ _ _
      have hb5 : (c' - ll) * size = c' * size - ll * size := Nat.sub_mul _ _ _
      rw [hk] at hin hsz2
      by_cases hm : c' = ll
      · refine ⟨.slice (some a) (hh - ll) (c' - ll), ?_, ?_⟩
        · unfold Instr.sliceAt Instr.slice
          simp only [Sem.run_bind, run_underlying hst, Result.andThen_ok, hbounds, run_sizeP hsz, Sem.run_pure]
          simp [hm]
        · have h1 : hh - ll = 0 := by omega
          have h2 : c' - ll = 0 := by omega
          rw [h1, h2]
          have := C0.slice (ρ := ρ) (A := A) (i := i + ll * size) (e := e) (n := 0) (c' := 0) (p := p) (a := a) hp (by omega) (by omega) (Nat.le_refl _) (.inr ⟨rfl, rfl⟩)
          rw [hk] at this
          exact .v1 (.c1 (.c0 this))
      · have ha : a = ⟨p.b, p.at i, none⟩ ∧ p.at i + c' * size ≤ p.sz := by
          rcases hsz2 with ha | ha
          · exact ha
          · omega
        obtain ⟨rfl, hsz3⟩ := ha
        refine ⟨.slice (some ⟨p.b, p.at i + ll * size, none⟩) (hh - ll) (c' - ll), ?_, ?_⟩
        · unfold Instr.sliceAt Instr.slice
          simp [run_underlying hst, hbounds, run_sizeP hsz, hm, addr_add]
        · have := C0.slice (ρ := ρ) (A := A) (i := i + ll * size) (e := e) (n := hh - ll) (c' := c' - ll) (p := p) (a := ⟨p.b, p.at (i + ll * size), none⟩) hp (by omega) (by rw [hk]; omega) (by omega) (.inl ⟨rfl, by rw [hk, at_add h0]; omega⟩)
          rw [at_add h0, hk] at this
          exact .v1 (.c1 (.c0 this))
    · cases hs
  · cases hs
end
end Go.Ds
