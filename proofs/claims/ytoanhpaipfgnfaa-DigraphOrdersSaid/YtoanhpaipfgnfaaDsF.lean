/-
  Ds against the model: building, make, append, copy, cuts.
-/
import Derived.Test.YtoanhpaipfgnfaaDsE
import Derived.Great.BuildSlice
import Derived.IntWalk
import Derived.Laws.MakeOwn
set_option linter.unusedVariables false
set_option linter.unusedSimpArgs false
namespace Go.Ds
section
variable {P : Program} {ρ : Rho} {H : Heap} {w : World}

theorem V1.cells {v v' : Value} (h : V1 ρ v v') : All2 (C1 ρ) v.cells.toList v'.cells.toList := by
  cases h with
  | agg h => exact h
  | c1 h =>
    have : v.cells.toList = [v] ∧ v'.cells.toList = [v'] := by
      cases h with
      | c0 h => cases h with
        | flat h => cases v <;> first | exact ⟨rfl, rfl⟩ | simp [scalar] at h
        | _ => exact ⟨rfl, rfl⟩
      | _ => exact ⟨rfl, rfl⟩
    rw [this.1, this.2]
    exact ⟨h, trivial⟩

theorem zero_cells {z : Value} (h : flat1 z = true) : All2 (C1 ρ) z.cells.toList z.cells.toList := (V1.of_flat h).cells

theorem built_ok {t : TypeId} {ps ps' : List (Nat × Value)} (hps : Parts ρ ps ps') (h1 : ∀ x ∈ ps, x.2.cells.toList.all oneCell = true) (hz : ∀ z, zeroP P t = some z → flat1 z = true)
    {r : Array Value} (hb : P.built t ps = some r) : ∃ r', P.built t ps' = some r' ∧ All2 (C1 ρ) r.toList r'.toList := by
  unfold Program.built at hb ⊢
  cases hit : P.info? t with
  | none => simp [hit] at hb
  | some it =>
    cases hu : P.underlying t with
    | none => simp [hit, hu] at hb
    | some d =>
      cases hzz : it.zero with
      | none => cases d <;> simp [hit, hu, hzz] at hb
      | some z =>
        have hfl : flat1 z = true := hz z (by simp [zeroP, hit, hzz])
        cases d <;> try (simp [hit, hu] at hb; done)
        case array n e =>
          cases hie : P.info? e with
          | none => simp [hit, hu, hzz, hie] at hb
          | some ie =>
            simp only [hit, hu, hzz, hie] at hb ⊢
            exact fill_ok _ ps ps' hps h1 _ _ _ (zero_cells hfl) hb
        case struct fields =>
          cases hp : fields.toList.mapM (fun f => (P.info? f.type).map fun i => (f.offset, i.size)) with
          | none => simp [hit, hu, hzz, hp] at hb
          | some places =>
            simp only [hit, hu, hzz, hp] at hb ⊢
            exact fill_ok _ ps ps' hps h1 _ _ _ (zero_cells hfl) hb

theorem parts_ok {l : List Value} {a : Act} : ∀ (parts : List (Nat × Operand)), (∀ x ∈ parts, V ρ (ev l x.2) (a.eval x.2)) →
    Parts ρ (parts.map fun (i, x) => (i, ev l x)) (parts.map fun (i, x) => (i, a.eval x))
  | [], _ => trivial
  | (i, x) :: ps, h => ⟨⟨rfl, h (i, x) (by simp)⟩, parts_ok ps fun y hy => h y (by simp [hy])⟩

theorem foldl_size (off : Nat) (a : Array (Value × Nat)) (cs : Array Value) : (a.foldl (fun (cs : Array Value) (x : Value × Nat) => cs.setIfInBounds (off + x.2) x.1) cs).size = cs.size := by
  rw [← Array.foldl_toList]
  generalize a.toList = l
  induction l generalizing cs with
  | nil => rfl
  | cons x l ih => simp only [List.foldl_cons]; rw [ih]; simp

theorem fill_size (place : Nat → Option (Nat × Nat)) : ∀ (ps : List (Nat × Value)) (cs r : Array Value), Instr.fill place cs ps = some r → r.size = cs.size
  | [], cs, r, h => by simp only [Instr.fill, Option.some.injEq] at h; rw [h]
  | (i, v) :: ps, cs, r, h => by
    simp only [Instr.fill] at h
    cases hp : place i with
    | none => rw [hp] at h; cases h
    | some os =>
      obtain ⟨off, size⟩ := os
      rw [hp] at h
      simp only at h
      split at h
      · cases h
      · rw [fill_size place ps _ _ h]
        exact foldl_size off _ _

/-- The value of a slice over a new row. -/
theorem slice_new {ρ : Rho} {A n k sz b : Nat} (hsz : n * k = sz) (hp : ρ A sz = some ⟨b, 0, sz, k⟩) : V ρ (.slice (some ⟨A, 0, some sz⟩) n k) (.slice (some ⟨b, 0, none⟩) n n) := by
  have := C0.slice (ρ := ρ) (A := A) (i := 0) (e := sz) (n := n) (c' := n) hp (by simp) (by simp [hsz]) (Nat.le_refl _) (.inl ⟨rfl, by simp [Place.at, hsz]⟩)
  exact .v1 (.c1 (.c0 (by simpa [Place.at] using this)))

theorem zeros_ok {z : Value} (h : flat1 z = true) (n : Nat) : All2 (C1 ρ) (((Array.range n).map (z.cells[· % z.cells.size]!)).toList) (((Array.range n).map (z.cells[· % z.cells.size]!)).toList) := by
  refine All2.same fun a ha => ?_
  simp only [Array.toList_map, List.mem_map] at ha
  obtain ⟨i, _, rfl⟩ := ha
  by_cases hz : i % z.cells.size < z.cells.size
  · rw [getElem!_pos z.cells _ hz]
    have := zero_cells (ρ := ρ) h
    obtain ⟨b, hb, hr⟩ := this.get (i % z.cells.size) (z.cells[i % z.cells.size]) (by simp)
    simp only [Array.getElem?_toList, Array.getElem?_eq_getElem hz, Option.some.injEq] at hb
    subst hb; exact hr
  · rw [getElem!_neg z.cells _ hz]; exact .of_scalar rfl

theorem sliceElem_some {t e : TypeId} (h : sliceElem P t = some e) : P.underlying t = some (.slice e) := by
  unfold sliceElem at h
  split at h
  · rename_i heq; rw [heq, Option.some.inj h]
  · cases h

theorem sizeP_some {t : TypeId} {n : Nat} (h : sizeP P t = some n) : ∃ i, P.info? t = some i ∧ i.size = n := by
  unfold sizeP at h
  cases hi : P.info? t with
  | none => rw [hi] at h; cases h
  | some i => rw [hi] at h; exact ⟨i, rfl, Option.some.inj h⟩


theorem room_i64 {n b : Nat} (h : (n : Int) * (b + 1) ≤ (roomD : Int)) : n ≤ 17592186044416 ∧ n * b ≤ 17592186044416 := by
  have hr : roomD = 17592186044416 := by decide
  rw [hr] at h
  have h' : n * (b + 1) ≤ 17592186044416 := by exact_mod_cast h
  exact ⟨Nat.le_trans (Nat.le_mul_of_pos_right n (by omega)) h', Nat.le_trans (Nat.mul_le_mul_left n (by omega)) h'⟩
end
end Go.Ds
