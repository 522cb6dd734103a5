/-
  Ds: a heap as a list of rows of our own.
-/
import Derived.Test.YtoanhpaipfgnfaaDsW
set_option linter.unusedVariables false
set_option linter.unusedSimpArgs false
namespace Go.Ds
noncomputable section
/-- What a list of rows of our own is laid over: a heap, and which of its blocks are ours all the same. -/
structure Base where
  H : Heap
  X : Nat → Prop
instance : Coe Heap Base := ⟨fun H => ⟨H, fun _ => False⟩⟩

variable {P : Program} {H0 : Base} {H : Heap}

/-- Something of ours: a variable (size 0) behind a pointer, or a slice with items of a size. -/
structure Ob where
  v : Value
  size : Nat
  cs : List Value

def blk : Value → Option Nat
  | .slice (some a) _ _ => some a.block
  | .pointer (some a) => some a.block
  | _ => none

abbrev ptr (A off n : Nat) : Value := .pointer (some ⟨A, off, some n⟩)

/-- A slice reads as cells. -/
def RdAt (H : Heap) (v : Value) (size : Nat) (cs : List Value) : Prop :=
  (v = .slice none 0 0 ∧ cs = []) ∨ ∃ A i e row ty rw lo ver n, hget H A = some (.cells row ty rw lo ver) ∧ lo ≤ e ∧ e ≤ row.length ∧ i + cs.length ≤ e ∧ (row.drop i).take cs.length = cs ∧
    cs.length = n * size ∧ v = .slice (some ⟨A, i, some e⟩) n size

def OwnAt (P : Program) (H : Heap) (o : Ob) : Prop :=
  if o.size = 0 then ∃ A ty lo ver, hget H A = some (.cells o.cs ty true lo ver) ∧ lo ≤ o.cs.length ∧ o.v = ptr A 0 o.cs.length
  else (o.v = .slice none 0 0 ∧ o.cs = []) ∨ ∃ A i ty lo ver pre n, hget H A = some (.cells (pre ++ o.cs) ty true lo ver) ∧ lo ≤ i + o.cs.length ∧ pre.length = i ∧ o.cs.length = n * o.size ∧
    o.v = .slice (some ⟨A, i, some (i + o.cs.length)⟩) n o.size ∧ sizeP P ty = some o.size

structure St (P : Program) (H0 : Base) (H : Heap) (os : List Ob) : Prop where
  len : H0.H.length ≤ H.length
  old : ∀ B, B < H0.H.length → ¬ H0.X B → hget H B = hget H0.H B
  own : ∀ o ∈ os, OwnAt P H o
  new : ∀ o ∈ os, ∀ B, blk o.v = some B → H0.H.length ≤ B ∨ H0.X B
  sep : os.Pairwise fun o o' => ∀ B, blk o.v = some B → blk o'.v ≠ some B

theorem St.refl (P : Program) (H : Heap) : St P H H [] := ⟨Nat.le_refl _, fun _ _ _ => rfl, by simp, by simp, .nil⟩

theorem RdAt.keep {H' : Heap} {v : Value} {size : Nat} {cs : List Value} (h : RdAt H v size cs) (hk : ∀ B, B < H.length → hget H' B = hget H B) : RdAt H' v size cs := by
  rcases h with h | ⟨A, i, e, row, ty, rw, lo, ver, n, h, h2⟩
  · exact .inl h
  · exact .inr ⟨A, i, e, row, ty, rw, lo, ver, n, by rw [hk A (hget_lt h), h], h2⟩

theorem St.keep {H0 : Heap} {os : List Ob} (h : St P H0 H os) : ∀ B, B < H0.length → hget H B = hget H0 B := fun B hB => h.old B hB (fun h => h)
theorem St.base {H0 : Heap} {os : List Ob} (h : St P H0 H os) {v : Value} {size : Nat} {cs : List Value} (hr : RdAt H0 v size cs) : RdAt H v size cs := hr.keep h.keep

theorem OwnAt.lt {o : Ob} (h : OwnAt P H o) {B : Nat} (hb : blk o.v = some B) : B < H.length := by
  unfold OwnAt at h
  split at h
  · obtain ⟨A, ty, lo, ver, h1, _, h3⟩ := h
    rw [h3] at hb
    simp [blk] at hb
    exact hb ▸ hget_lt h1
  · rcases h with ⟨h1, _⟩ | ⟨A, i, ty, lo, ver, pre, n, h1, _, _, _, h5, _⟩
    · rw [h1] at hb; simp [blk] at hb
    · rw [h5] at hb
      simp [blk] at hb
      exact hb ▸ hget_lt h1

theorem OwnAt.keep {H' : Heap} {o : Ob} (h : OwnAt P H o) (hk : ∀ B, blk o.v = some B → hget H' B = hget H B) : OwnAt P H' o := by
  unfold OwnAt at h ⊢
  split at h
  · rename_i hz
    rw [if_pos hz]
    obtain ⟨A, ty, lo, ver, h1, h2, h3⟩ := h
    exact ⟨A, ty, lo, ver, by rw [hk A (by rw [h3]; rfl), h1], h2, h3⟩
  · rename_i hz
    rw [if_neg hz]
    rcases h with h | ⟨A, i, ty, lo, ver, pre, n, h1, h2, h3, h4, h5, h6⟩
    · exact .inl h
    · exact .inr ⟨A, i, ty, lo, ver, pre, n, by rw [hk A (by rw [h5]; rfl), h1], h2, h3, h4, h5, h6⟩

theorem OwnAt.rd {o : Ob} (h : OwnAt P H o) (hz : o.size ≠ 0) : RdAt H o.v o.size o.cs := by
  unfold OwnAt at h
  rw [if_neg hz] at h
  rcases h with h | ⟨A, i, ty, lo, ver, pre, n, h1, h2, h3, h4, h5, h6⟩
  · exact .inl h
  · refine .inr ⟨A, i, _, _, ty, true, lo, ver, n, h1, h2, by simp [h3], Nat.le_refl _, ?_, h4, h5⟩
    rw [← h3]; simp

theorem St.rd {os : List Ob} (h : St P H0 H os) (i : Nat) {v : Value} {size : Nat} {cs : List Value} (ho : os[i]? = some ⟨v, size + 1, cs⟩) : RdAt H v (size + 1) cs :=
  (h.own _ (List.mem_of_getElem? ho)).rd (Nat.succ_ne_zero _)

/-! ### What types say, in words of their own -/
def sliceSz (P : Program) (t : TypeId) : Option Nat := (sliceElem P t).bind (sizeP P)
def fldOff (P : Program) (s : TypeId) (f : Nat) : Option Nat := (fieldD P s f).bind fun fd => (sizeP P fd.type).bind fun n => if n == 0 then none else some fd.offset

def lenS (o : Option Nat) (P : Program) (H : Heap) (t : TypeId) (v : Value) : Option Value := match o with
  | some _ => (match v with | .slice _ n _ => some (.int .i64 n) | _ => none)
  | none => lenV P H t v
theorem lenV_eq (t : TypeId) (v : Value) : lenV P H t v = lenS (sliceSz P t) P H t v := by
  unfold lenS
  split
  · rename_i n hn
    unfold sliceSz sliceElem at hn
    unfold lenV
    split at hn
    · rename_i e he
      rw [he]
      cases v <;> simp [lenD, goInt]
    · cases hn
  · rfl

def idxS (o : Option Nat) (P : Program) (t : TypeId) (v i : Value) : Option Value := match o with
  | some s => (match v, i with | .slice (some ⟨A, i, some e⟩) n _, .int _ j => if 0 ≤ j && j < n then some (ptr A (i + j.toNat * s) e) else none | _, _ => none)
  | none => idxV P t v i
theorem idxV_eq (t : TypeId) (v i : Value) : idxV P t v i = idxS (sliceSz P t) P t v i := by
  unfold idxS
  split
  · rename_i n hn
    unfold sliceSz sliceElem at hn
    unfold idxV
    split at hn
    · rename_i e he
      simp only [Option.bind_some] at hn
      rw [he]
      cases v with
      | slice a m c =>
        cases a with
        | none => cases i <;> rfl
        | some a =>
          obtain ⟨A, i', s⟩ := a
          cases s with
          | none => cases i <;> rfl
          | some s =>
            cases i with
            | int k j => simp only [hn, Option.bind_some]
            | _ => rfl
      | _ => cases i <;> rfl
    · cases hn
  · rfl

def fldS (o : Option Nat) (v : Value) : Option Value := match o, v with
  | some d, .pointer (some ⟨A, i, some e⟩) => some (ptr A (i + d) e)
  | _, _ => none
theorem fldV_eq (s : TypeId) (f : Nat) (v : Value) : fldV P s f v = fldS (fldOff P s f) v := by
  unfold fldV fldOff
  split
  · cases fieldD P s f with
    | none => rfl
    | some fd =>
      simp only [Option.bind_some]
      cases sizeP P fd.type with
      | none => rfl
      | some n =>
        simp only [Option.bind_some]
        split <;> rfl
  · rename_i h
    unfold fldS
    split
    · exact (h _ _ _ rfl).elim
    · rfl
theorem fldS_ptr (d A i e : Nat) : fldS (some d) (ptr A i e) = some (ptr A (i + d) e) := rfl

/-! ### Reading -/
theorem RdAt.len {v : Value} {size : Nat} {cs : List Value} (h : RdAt H v (size + 1) cs) {n : Nat} (hn : cs.length = n * (size + 1)) (m : Nat) (t : TypeId) : lenS (some m) P H t v = some (.int .i64 n) := by
  have hn' : ∀ m, cs.length = m * (size + 1) → m = n := fun m hm => Nat.eq_of_mul_eq_mul_right (Nat.succ_pos size) (hm.symm.trans hn)
  rcases h with ⟨rfl, rfl⟩ | ⟨A, i, e, row, ty, rw, lo, ver, m, h1, h2, h3, h4, h5, h6, rfl⟩
  · have := hn' 0 (by simp)
    subst this
    rfl
  · have := hn' m h6
    subst this
    rfl

theorem RdAt.idx {v : Value} {size : Nat} {cs : List Value} (h : RdAt H v (size + 1) cs) {n : Nat} (hn : cs.length = n * (size + 1)) (t : TypeId) (k : IntKind) (j : Int)
    (h0 : 0 ≤ j) (h1 : j < n) : idxS (some (size + 1)) P t v (.int k j) = some (elemPtr v (size + 1) j.toNat 0) := by
  have hn' : ∀ m, cs.length = m * (size + 1) → m = n := fun m hm => Nat.eq_of_mul_eq_mul_right (Nat.succ_pos size) (hm.symm.trans hn)
  rcases h with ⟨rfl, rfl⟩ | ⟨A, i, e, row, ty, rw, lo, ver, m, h2, h3, h4, h5, h6, h7, rfl⟩
  · have := hn' 0 (by simp)
    omega
  · have := hn' m h7
    subst this
    simp [idxS, h0, h1, elemPtr]

theorem RdAt.fld {v : Value} {size : Nat} {cs : List Value} (h : RdAt H v (size + 1) cs) (j : Nat) (hj : j * (size + 1) < cs.length) (g d : Nat) : fldS (some d) (elemPtr v (size + 1) j g) = some (elemPtr v (size + 1) j (g + d)) := by
  rcases h with ⟨rfl, rfl⟩ | ⟨A, i, e, row, ty, rw, lo, ver, n, h1, h2, h3, h4, h5, h6, rfl⟩
  · simp at hj
  · simp [fldS, elemPtr, Nat.add_assoc]

theorem RdAt.get {v : Value} {size : Nat} {cs : List Value} (h : RdAt H v size cs) (j f m : Nat) (hk : j * size + f + m ≤ cs.length) (hm : 0 < m) : ∃ A i e, elemPtr v size j f = ptr A i e ∧ cellsAt H A i e m = some ((cs.drop (j * size + f)).take m) := by
  rcases h with ⟨rfl, rfl⟩ | ⟨A, i, e, row, ty, rw, lo, ver, n, h1, h2, h3, h4, h5, h6, rfl⟩
  · simp at hk; omega
  · refine ⟨_, _, _, rfl, ?_⟩
    simp only [cellsAt, h1]
    rw [if_pos (by simp; omega)]
    congr 1
    conv => rhs; rw [← h5]
    rw [List.drop_take, List.take_take, List.drop_drop, Nat.min_eq_left (by omega)]
    simp [Nat.add_assoc]

theorem RdAt.ld {v : Value} {size : Nat} {cs : List Value} (h : RdAt H v size cs) (s : Option Nat) (j f : Nat) (hk : j * size + f < cs.length) : ldW (some false) s H (elemPtr v size j f) = cs[j * size + f]? := by
  obtain ⟨A, i, e, h1, h2⟩ := h.get j f 1 hk (by omega)
  rw [h1]
  simp only [ldW, h2, Option.bind_some]
  rw [List.getElem?_take_of_lt (by omega), List.getElem?_drop]
  simp

theorem RdAt.ldA {v : Value} {size : Nat} {cs : List Value} (h : RdAt H v size cs) (m j f : Nat) (hk : j * size + f + m ≤ cs.length) (hm : 0 < m) : ldW (some true) (some m) H (elemPtr v size j f) = some (.agg ((cs.drop (j * size + f)).take m).toArray) := by
  obtain ⟨A, i, e, h1, h2⟩ := h.get j f m hk hm
  rw [h1]
  simp only [ldW, h2, Option.bind_some, Option.map_some]

/-! Slices of items of one cell. -/
def Sl1 {α : Type} (H : Heap) (v : Value) (mk : α → Value) (xs : List α) : Prop := RdAt H v 1 (xs.map mk)
section
variable {α : Type} {mk : α → Value} {v : Value} {xs : List α}
theorem Sl1.len (h : Sl1 H v mk xs) (m : Nat) (t : TypeId) : lenS (some m) P H t v = some (.int .i64 xs.length) := RdAt.len (size := 0) h (by simp) m t
theorem Sl1.idx (h : Sl1 H v mk xs) (t : TypeId) (k : IntKind) (j : Int) (h0 : 0 ≤ j) (h1 : j < xs.length) : idxS (some 1) P t v (.int k j) = some (elemPtr v 1 j.toNat 0) := RdAt.idx (size := 0) h (by simp) t k j h0 h1
theorem Sl1.ld (h : Sl1 H v mk xs) (d : α) (s : Option Nat) (j : Nat) (hj : j < xs.length) : ldW (some false) s H (elemPtr v 1 j 0) = some (mk (xs.getD j d)) := by
  rw [RdAt.ld h s j 0 (by simpa using hj)]
  simp [List.getD_eq_getElem?_getD, hj]
end

/-! Slices of items of two cells. -/
def Sl2 {α : Type} (H : Heap) (v : Value) (f g : α → Value) (xs : List α) : Prop := RdAt H v 2 (xs.flatMap fun x => [f x, g x])
theorem flat2_length {α : Type} (f g : α → Value) (xs : List α) : (xs.flatMap fun x => [f x, g x]).length = xs.length * 2 := by
  induction xs with
  | nil => rfl
  | cons x xs ih => simp [List.flatMap_cons, ih]; omega
theorem flat2_drop {α : Type} (f g : α → Value) : ∀ (xs : List α) (j : Nat), (xs.flatMap fun x => [f x, g x]).drop (j * 2) = (xs.drop j).flatMap fun x => [f x, g x]
  | [], j => by simp
  | x :: xs, 0 => rfl
  | x :: xs, j + 1 => by
    rw [Nat.succ_mul]
    simp only [List.flatMap_cons, List.cons_append, List.nil_append, List.drop_succ_cons]
    exact flat2_drop f g xs j
section
variable {α : Type} {f g : α → Value} {v : Value} {xs : List α}
theorem Sl2.len (h : Sl2 H v f g xs) (m : Nat) (t : TypeId) : lenS (some m) P H t v = some (.int .i64 xs.length) := RdAt.len (size := 1) h (flat2_length f g xs) m t
theorem Sl2.idx (h : Sl2 H v f g xs) (t : TypeId) (k : IntKind) (j : Int) (h0 : 0 ≤ j) (h1 : j < xs.length) : idxS (some 2) P t v (.int k j) = some (elemPtr v 2 j.toNat 0) := RdAt.idx (size := 1) h (flat2_length f g xs) t k j h0 h1
theorem Sl2.fld (h : Sl2 H v f g xs) (j : Nat) (hj : j < xs.length) (g d : Nat) : fldS (some d) (elemPtr v 2 j g) = some (elemPtr v 2 j (g + d)) := RdAt.fld (size := 1) h j (by rw [flat2_length]; omega) g d
theorem Sl2.drop (j : Nat) (hj : j < xs.length) (d : α) : (xs.flatMap fun x => [f x, g x]).drop (j * 2) = f (xs.getD j d) :: g (xs.getD j d) :: ((xs.drop (j + 1)).flatMap fun x => [f x, g x]) := by
  rw [flat2_drop, List.drop_eq_getElem_cons hj]
  have e : xs.getD j d = xs[j] := by simp [List.getD_eq_getElem?_getD, hj]
  rw [e]
  rfl
theorem Sl2.ld0 (h : Sl2 H v f g xs) (d : α) (s : Option Nat) (j : Nat) (hj : j < xs.length) : ldW (some false) s H (elemPtr v 2 j 0) = some (f (xs.getD j d)) := by
  rw [RdAt.ld h s j 0 (by rw [flat2_length]; omega)]
  have := Sl2.drop (f := f) (g := g) j hj d
  have h2 : ((xs.flatMap fun x => [f x, g x]).drop (j * 2))[0]? = some (f (xs.getD j d)) := by rw [this]; rfl
  rwa [List.getElem?_drop] at h2
theorem Sl2.ld1 (h : Sl2 H v f g xs) (d : α) (s : Option Nat) (j : Nat) (hj : j < xs.length) : ldW (some false) s H (elemPtr v 2 j 1) = some (g (xs.getD j d)) := by
  rw [RdAt.ld h s j 1 (by rw [flat2_length]; omega)]
  have := Sl2.drop (f := f) (g := g) j hj d
  have h2 : ((xs.flatMap fun x => [f x, g x]).drop (j * 2))[1]? = some (g (xs.getD j d)) := by rw [this]; rfl
  rwa [List.getElem?_drop] at h2
theorem Sl2.ldA (h : Sl2 H v f g xs) (d : α) (j : Nat) (hj : j < xs.length) : ldW (some true) (some 2) H (elemPtr v 2 j 0) = some (.agg #[f (xs.getD j d), g (xs.getD j d)]) := by
  rw [RdAt.ldA h 2 j 0 (by rw [flat2_length]; omega) (by omega)]
  have := Sl2.drop (f := f) (g := g) j hj d
  rw [Nat.add_zero, this]
  rfl
end

/-! Variables. -/
theorem St.cell {os : List Ob} (hS : St P H0 H os) (i : Nat) {A n : Nat} {cs : List Value} (ho : os[i]? = some ⟨ptr A 0 n, 0, cs⟩) : n = cs.length ∧ ∃ ty lo ver, hget H A = some (.cells cs ty true lo ver) ∧ lo ≤ cs.length := by
  have := hS.own _ (List.mem_of_getElem? ho)
  unfold OwnAt at this
  rw [if_pos rfl] at this
  obtain ⟨A', ty, lo, ver, h1, h2, h3⟩ := this
  simp only [ptr, Value.pointer.injEq, Option.some.injEq, Addr.mk.injEq, true_and] at h3
  obtain ⟨rfl, rfl⟩ := h3
  exact ⟨rfl, ty, lo, ver, h1, h2⟩

theorem St.ld {os : List Ob} (hS : St P H0 H os) (i : Nat) {A n : Nat} {cs : List Value} (ho : os[i]? = some ⟨ptr A 0 n, 0, cs⟩) (s : Option Nat) (off : Nat) : ldW (some false) s H (ptr A off n) = cs[off]? := by
  obtain ⟨rfl, ty, lo, ver, h1, h2⟩ := hS.cell i ho
  simp only [ldW, cellsAt, h1]
  by_cases h : off < cs.length
  · rw [if_pos (by simp; omega)]
    simp only [Option.bind_some]
    rw [List.getElem?_take_of_lt (by omega), List.getElem?_drop]
    simp
  · rw [if_neg (by simp; omega), List.getElem?_eq_none (by omega)]
    rfl

theorem St.ldA {os : List Ob} (hS : St P H0 H os) (i : Nat) {A n : Nat} {cs : List Value} (ho : os[i]? = some ⟨ptr A 0 n, 0, cs⟩) (m off : Nat) : ldW (some true) (some m) H (ptr A off n) = if off + m ≤ cs.length then some (.agg ((cs.drop off).take m).toArray) else none := by
  obtain ⟨rfl, ty, lo, ver, h1, h2⟩ := hS.cell i ho
  simp only [ldW, cellsAt, h1, Option.bind_some]
  by_cases h : off + m ≤ cs.length
  · rw [if_pos (by simp; omega), if_pos h]
    rfl
  · rw [if_neg (by simp; omega), if_neg h]
    rfl

/-! ### Writing -/
/-- One of ours is changed, or moves to a new row. -/
theorem St.put {H1 : Heap} {os : List Ob} (hS : St P H0 H os) (i : Nat) {o o' : Ob} (ho : os[i]? = some o) (hown : OwnAt P H1 o') (hlen : H.length ≤ H1.length) (hk : ∀ B, B < H.length → blk o.v ≠ some B → hget H1 B = hget H B)
    (hb : ∀ B, blk o'.v = some B → blk o.v = some B ∨ H.length ≤ B) : St P H0 H1 (os.set i o') := by
  have hi : i < os.length := (List.getElem?_eq_some_iff.1 ho).1
  have hoi : os[i] = o := (List.getElem?_eq_some_iff.1 ho).2
  have hpw := List.pairwise_iff_getElem.1 hS.sep
  have hne : ∀ j (hj : j < os.length), j ≠ i → ∀ B, blk os[j].v = some B → blk o.v ≠ some B := by
    intro j hj hji B hB hB2
    rcases Nat.lt_or_gt_of_ne hji with h | h
    · exact hpw j i hj hi h B hB (hoi ▸ hB2)
    · exact hpw i j hi hj h B (hoi ▸ hB2) hB
  have ho0 : ∀ B, blk o.v = some B → H0.H.length ≤ B ∨ H0.X B := hS.new o (List.mem_of_getElem? ho)
  refine ⟨Nat.le_trans hS.len hlen, ?_, ?_, ?_, ?_⟩
  · intro B hB hX
    rw [hk B (Nat.lt_of_lt_of_le hB hS.len) (fun h => by
      rcases ho0 B h with h | h
      · omega
      · exact hX h), hS.old B hB hX]
  · intro x hx
    rw [List.mem_iff_getElem] at hx
    obtain ⟨j, hj, rfl⟩ := hx
    rw [List.length_set] at hj
    rw [List.getElem_set]
    split
    · exact hown
    · rename_i hij
      have hox : OwnAt P H os[j] := hS.own _ (List.getElem_mem hj)
      exact hox.keep fun B hB => hk B (hox.lt hB) (hne j hj (fun h => hij h.symm) B hB)
  · intro x hx B hB
    rw [List.mem_iff_getElem] at hx
    obtain ⟨j, hj, rfl⟩ := hx
    rw [List.length_set] at hj
    rw [List.getElem_set] at hB
    split at hB
    · rcases hb B hB with h | h
      · exact ho0 B h
      · exact .inl (Nat.le_trans hS.len h)
    · exact hS.new _ (List.getElem_mem hj) B hB
  · rw [List.pairwise_iff_getElem]
    intro j k hj hk' hjk B
    rw [List.length_set] at hj hk'
    rw [List.getElem_set, List.getElem_set]
    have hlt : ∀ j (hj : j < os.length) B, blk os[j].v = some B → B < H.length := fun j hj B hB => (hS.own _ (List.getElem_mem hj)).lt hB
    split
    · rename_i hij
      split
      · omega
      · intro h1 h2
        rcases hb B h1 with h | h
        · exact hne k hk' (by omega) B h2 h
        · have := hlt k hk' B h2; omega
    · rename_i hij
      split
      · intro h1 h2
        rcases hb B h2 with h | h
        · exact hne j hj (by omega) B h1 h
        · have := hlt j hj B h1; omega
      · exact hpw j k hj hk' hjk B

/-- A new one. -/
theorem St.add {H1 : Heap} {os : List Ob} (hS : St P H0 H os) {o : Ob} (hown : OwnAt P H1 o) (hlen : H.length ≤ H1.length) (hk : ∀ B, B < H.length → hget H1 B = hget H B) (hb : ∀ B, blk o.v = some B → H.length ≤ B) : St P H0 H1 (os ++ [o]) := by
  refine ⟨Nat.le_trans hS.len hlen, fun B hB hX => by rw [hk B (Nat.lt_of_lt_of_le hB hS.len), hS.old B hB hX], ?_, ?_, ?_⟩
  · intro x hx
    rcases List.mem_append.1 hx with hx | hx
    · exact (hS.own x hx).keep fun B hB => hk B ((hS.own x hx).lt hB)
    · obtain rfl := List.mem_singleton.1 hx
      exact hown
  · intro x hx B hB
    rcases List.mem_append.1 hx with hx | hx
    · exact hS.new x hx B hB
    · obtain rfl := List.mem_singleton.1 hx
      exact .inl (Nat.le_trans hS.len (hb B hB))
  · rw [List.pairwise_append]
    refine ⟨hS.sep, List.pairwise_singleton _ _, fun x hx y hy B h1 h2 => ?_⟩
    obtain rfl := List.mem_singleton.1 hy
    have := (hS.own x hx).lt h1
    have := hb B h2
    omega

/-- What a call leaves. -/
theorem St.trans {H1 : Heap} {os os1 : List Ob} (hS : St P H0 H os) (h1 : St P H H1 os1) : St P H0 H1 (os ++ os1) := by
  refine ⟨Nat.le_trans hS.len h1.len, fun B hB hX => by rw [h1.keep B (Nat.lt_of_lt_of_le hB hS.len), hS.old B hB hX], ?_, ?_, ?_⟩
  · intro x hx
    rcases List.mem_append.1 hx with hx | hx
    · exact (hS.own x hx).keep fun B hB => h1.keep B ((hS.own x hx).lt hB)
    · exact h1.own x hx
  · intro x hx B hB
    rcases List.mem_append.1 hx with hx | hx
    · exact hS.new x hx B hB
    · rcases h1.new x hx B hB with h | h
      · exact .inl (Nat.le_trans hS.len h)
      · exact h.elim
  · rw [List.pairwise_append]
    refine ⟨hS.sep, h1.sep, fun x hx y hy B e1 e2 => ?_⟩
    have := (hS.own x hx).lt e1
    rcases h1.new y hy B e2 with h | h
    · have h : H.length ≤ B := h
      omega
    · exact h.elim

/-- The blocks of ours. -/
def blksOf (os : List Ob) : Nat → Prop := fun A => ∃ o ∈ os, blk o.v = some A

/-- On from here, with what is ours. -/
theorem St.rebase {os : List Ob} (hS : St P H0 H os) : St P ⟨H, blksOf os⟩ H os :=
  ⟨Nat.le_refl _, fun _ _ _ => rfl, hS.own, fun o ho B hB => .inr ⟨o, ho, hB⟩, hS.sep⟩

theorem St.unbase {H1 : Heap} {os os1 : List Ob} (hS : St P H0 H os) (h1 : St P ⟨H, blksOf os⟩ H1 os1) : St P H0 H1 os1 := by
  refine ⟨Nat.le_trans hS.len h1.len, ?_, h1.own, ?_, h1.sep⟩
  · intro B hB hX
    rw [h1.old B (Nat.lt_of_lt_of_le hB hS.len) ?_, hS.old B hB hX]
    rintro ⟨o, ho, hb⟩
    rcases hS.new o ho B hb with h | h
    · omega
    · exact hX h
  · intro o ho B hB
    rcases h1.new o ho B hB with h | ⟨o', ho', hb⟩
    · exact .inl (Nat.le_trans hS.len h)
    · exact hS.new o' ho' B hb

/-- What is no block of ours stays. -/
theorem St.other {H1 : Heap} {os os1 : List Ob} (h1 : St P ⟨H, blksOf os⟩ H1 os1) {L : Nat} (hL : L < H.length) (hn : ∀ o ∈ os, blk o.v ≠ some L) : hget H1 L = hget H L :=
  h1.old L hL fun ⟨o, ho, hb⟩ => hn o ho hb

theorem St.sub {os os' : List Ob} (hS : St P H0 H os) (h : os'.Sublist os) : St P H0 H os' :=
  ⟨hS.len, hS.old, fun o ho => hS.own o (h.subset ho), fun o ho => hS.new o (h.subset ho), hS.sep.sublist h⟩

/-- What is of ours from some heap on is what is there. -/
theorem St.forget {os : List Ob} (hS : St P H0 H os) : St P H0 H [] := hS.sub (List.nil_sublist _)

theorem OwnAt.nil (size : Nat) : OwnAt P H ⟨.slice none 0 0, size + 1, []⟩ := by
  unfold OwnAt
  rw [if_neg (Nat.succ_ne_zero _)]
  exact .inl ⟨rfl, rfl⟩

theorem St.nil {os : List Ob} (hS : St P H0 H os) (size : Nat) : St P H0 H (os ++ [⟨.slice none 0 0, size + 1, []⟩]) :=
  hS.add (.nil size) (Nat.le_refl _) (fun _ _ => rfl) (fun B hB => by simp [blk] at hB)

end
end Go.Ds
