/-
  Ds: words that lead a symbolic run from operation to operation.
-/
import Derived.Test.YtoanhpaipfgnfaaDsS
set_option linter.unusedVariables false
set_option linter.unusedSimpArgs false
namespace Go.Ds
noncomputable section
variable {P : Program} {H : Heap}

def letV (v : Value) (K : Value → Prop) (_k : Keep K := ⟨⟩) : Prop := K v
theorem letV_congr {v v' : Value} {K : Value → Prop} (h : v = v') : letV v K = letV v' K := by rw [h]
attribute [congr] letV_congr
theorem letV_eq (v : Value) (K : Value → Prop) : letV v K = K v := rfl

def bindV (r : Option Value) (K : Value → Prop) (_k : Keep K := ⟨⟩) : Prop := match r with | some v => K v | none => False
theorem bindV_congr {r r' : Option Value} {K : Value → Prop} (h : r = r') : bindV r K = bindV r' K := by rw [h]
attribute [congr] bindV_congr
theorem bindV_some (v : Value) (K : Value → Prop) : bindV (some v) K = K v := rfl

theorem bindW_congr {r r' : Option (Value × Heap)} {K : Value → Heap → Prop} (h : r = r') : bindW r K = bindW r' K := by rw [h]
attribute [congr] bindW_congr

def andW (b : Bool) (p : Prop) (_k : Keep p := ⟨⟩) : Prop := b = true ∧ p
theorem andW_congr {b b' : Bool} {p : Prop} (h : b = b') : andW b p = andW b' p := by rw [h]
attribute [congr] andW_congr
theorem andW_true (p : Prop) : andW true p = p := by simp [andW]

/-- The value of an operand, and on. -/
def opdW (x : Operand) (l : List Value) (K : Value → Prop) (_k : Keep K := ⟨⟩) : Prop := operandOk x = true ∧ K (ev l x)
theorem opdW_congr {x : Operand} {l : List Value} {K : Value → Prop} (h : x = x) : opdW x l K = opdW x l K := rfl
theorem opdW_tmp (t : Tmp) (l : List Value) (K : Value → Prop) : opdW (.tmp t) l K = letV (get l t) K := by simp [opdW, operandOk, ev, letV]
theorem opdW_const (v : Value) (l : List Value) (K : Value → Prop) : opdW (.const v) l K = andW (flat v) (K v) := by simp [opdW, operandOk, ev, andW]
theorem opdW_func (f : FuncId) (l : List Value) (K : Value → Prop) : opdW (.func f) l K = K (.func (.func f) #[] #[]) := by simp [opdW, operandOk, ev]

/-- Several operands. -/
def opdsW : List Operand → List Value → (List Value → Prop) → Prop
  | [], _, K => K []
  | x :: xs, l, K => opdW x l fun v => opdsW xs l fun vs => K (v :: vs)

theorem opdsW_eq : ∀ (xs : List Operand) (l : List Value) (K : List Value → Prop), opdsW xs l K = (xs.all operandOk = true ∧ K (xs.map (ev l)))
  | [], l, K => by simp [opdsW]
  | x :: xs, l, K => by simp [opdsW, opdsW_eq, opdW, and_assoc]

theorem opdsW_nil (l : List Value) (K : List Value → Prop) : opdsW [] l K = K [] := rfl
theorem opdsW_cons (x : Operand) (xs : List Operand) (l : List Value) (K : List Value → Prop) : opdsW (x :: xs) l K = opdW x l fun v => opdsW xs l fun vs => K (v :: vs) := rfl

theorem opW_move (d ty pos af g) (x : Operand) (l : List Value) (K : Value → Heap → Prop) : opW P ⟨d, .move x, ty, pos, af, g⟩ l H K = opdW x l fun v => K v H := by
  simp [opW, opdW, Op.operands]
theorem opW_assign (d ty pos af g) (x : Operand) (l : List Value) (K : Value → Heap → Prop) : opW P ⟨d, .assign x, ty, pos, af, g⟩ l H K = opdW x l fun v => K v H := by
  simp [opW, opdW, Op.operands]

/-- The one of two. -/
def pickW (c a b : Value) (K : Value → Prop) (_k : Keep K := ⟨⟩) : Prop := match c with | .bool t => K (if t then a else b) | _ => False
theorem pickW_congr {c c' a b : Value} {K : Value → Prop} (h : c = c') : pickW c a b K = pickW c' a b K := by rw [h]
attribute [congr] pickW_congr
theorem pickW_true (a b : Value) (K : Value → Prop) : pickW (.bool true) a b K = K a := rfl
theorem pickW_false (a b : Value) (K : Value → Prop) : pickW (.bool false) a b K = K b := rfl
theorem pickW_bools (c x y : Bool) (K : Value → Prop) : pickW (.bool c) (.bool x) (.bool y) K = K (.bool (if c then x else y)) := by cases c <;> rfl

theorem opW_pick (d ty pos af g) (c a b : Operand) (l : List Value) (K : Value → Heap → Prop) : opW P ⟨d, .pick c a b, ty, pos, af, g⟩ l H K = opdW c l fun c => opdW a l fun a => opdW b l fun b => pickW c a b fun v => K v H := by
  simp only [opW, opdW, Op.operands, opD, pickW, List.all_cons, List.all_nil, Bool.and_true, Bool.and_eq_true, and_assoc]
  congr 1; congr 1; congr 1
  cases ev l c <;> simp [bindW]

theorem bindW_ex (r : Option (Value × Heap)) (K : Value → Heap → Prop) : bindW r K = ∃ v H1, r = some (v, H1) ∧ K v H1 := by
  cases r with
  | none => simp [bindW]
  | some r =>
    obtain ⟨a, b⟩ := r
    exact propext ⟨fun h => ⟨a, b, rfl, h⟩, fun ⟨_, _, h, k⟩ => by cases h; exact k⟩

/-- Loading. -/
def ldW (a : Option Bool) (s : Option Nat) (H : Heap) (v : Value) : Option Value :=
  match v with
  | .pointer (some ⟨A, i, some e⟩) =>
    match a with
    | some true => s.bind fun n => (cellsAt H A i e n).map fun l => .agg l.toArray
    | some false => (cellsAt H A i e 1).bind fun l => l[0]?
    | none => none
  | _ => none

theorem loadD_eq (t : TypeId) (v : Value) : loadD P H t v = ldW (aggP P t) (sizeP P t) H v := rfl

theorem opW_load (d ty pos af g) (t : TypeId) (a : Operand) (l : List Value) (K : Value → Heap → Prop) : opW P ⟨d, .load t a, ty, pos, af, g⟩ l H K = opdW a l fun p => bindV (ldW (aggP P t) (sizeP P t) H p) fun v => K v H := by
  simp only [opW, opdW, Op.operands, opD, List.all_cons, List.all_nil, Bool.and_true, loadD_eq]
  cases ldW (aggP P t) (sizeP P t) H (ev l a) <;> simp [bindW, bindV]

/-- Storing. -/
def storeW (P : Program) (H : Heap) (t : TypeId) (p v : Value) (K : Heap → Prop) (_k : Keep K := ⟨⟩) : Prop := ∃ H1, storeD P H t p v = some H1 ∧ K H1
theorem storeW_congr {t : TypeId} {p p' v v' : Value} {K : Heap → Prop} (h1 : p = p') (h2 : v = v') : storeW P H t p v K = storeW P H t p' v' K := by rw [h1, h2]
attribute [congr] storeW_congr

theorem opW_store (d ty pos af g) (t : TypeId) (a x : Operand) (l : List Value) (K : Value → Heap → Prop) : opW P ⟨d, .store t a x, ty, pos, af, g⟩ l H K = opdW a l fun p => opdW x l fun v => storeW P H t p v fun H1 => K undef H1 := by
  simp only [opW, opdW, Op.operands, opD, List.all_cons, List.all_nil, Bool.and_true, Bool.and_eq_true, and_assoc, storeW]
  cases storeD P H t (ev l a) (ev l x) <;> simp [bindW]

/-- A new row that holds a value. -/
def newW (P : Program) (H : Heap) (t : TypeId) (v : Value) (K : Value → Heap → Prop) (_k : Keep K := ⟨⟩) : Prop := ∃ p H1, newD P H t v = some (p, H1) ∧ K p H1
theorem newW_congr {t : TypeId} {v v' : Value} {K : Value → Heap → Prop} (h : v = v') : newW P H t v K = newW P H t v' K := by rw [h]
attribute [congr] newW_congr

theorem bindW_newW (t : TypeId) (v : Value) (K : Value → Heap → Prop) : bindW (newD P H t v) K = newW P H t v K := bindW_ex _ _

def allocW (P : Program) (H : Heap) (t : TypeId) (z : Option Value) (K : Value → Heap → Prop) (_k : Keep K := ⟨⟩) : Prop := match z with | some z => flat1 z = true ∧ newW P H t z K | none => False
theorem allocW_congr {t : TypeId} {z z' : Option Value} {K : Value → Heap → Prop} (h : z = z') : allocW P H t z K = allocW P H t z' K := by rw [h]
attribute [congr] allocW_congr
theorem allocW_some (t : TypeId) (z : Value) (K : Value → Heap → Prop) : allocW P H t (some z) K = andW (flat1 z) (newW P H t z K) := rfl

theorem opW_alloc (d ty pos af g) (t : TypeId) (l : List Value) (K : Value → Heap → Prop) : opW P ⟨d, .alloc t, ty, pos, af, g⟩ l H K = allocW P H t (zeroP P t) K := by
  simp only [opW, Op.operands, opD, List.all_nil, true_and, allocW]
  cases zeroP P t with
  | none => simp [bindW]
  | some z =>
    simp only [Option.bind_some]
    by_cases hz : flat1 z = true
    · simp only [hz, if_true, true_and]; exact bindW_newW t z K
    · simp [hz, bindW]

theorem opW_box (d ty pos af g) (t : TypeId) (x : Operand) (l : List Value) (K : Value → Heap → Prop) : opW P ⟨d, .box t x, ty, pos, af, g⟩ l H K = opdW x l fun v => newW P H t v K := by
  simp only [opW, opdW, Op.operands, opD, List.all_cons, List.all_nil, Bool.and_true, bindW_newW]

/-- A struct or an array, out of its parts. -/
def partsW : List (Nat × Operand) → List Value → (List (Nat × Value) → Prop) → Prop
  | [], _, K => K []
  | (i, x) :: xs, l, K => opdW x l fun v => partsW xs l fun vs => K ((i, v) :: vs)

theorem partsW_eq : ∀ (xs : List (Nat × Operand)) (l : List Value) (K : List (Nat × Value) → Prop), partsW xs l K = ((xs.map (·.2)).all operandOk = true ∧ K (xs.map fun (i, x) => (i, ev l x)))
  | [], l, K => by simp [partsW]
  | (i, x) :: xs, l, K => by simp [partsW, partsW_eq, opdW, and_assoc]

theorem partsW_nil (l : List Value) (K : List (Nat × Value) → Prop) : partsW [] l K = K [] := rfl
theorem partsW_cons (i : Nat) (x : Operand) (xs : List (Nat × Operand)) (l : List Value) (K : List (Nat × Value) → Prop) : partsW ((i, x) :: xs) l K = opdW x l fun v => partsW xs l fun vs => K ((i, v) :: vs) := rfl

def builtV (P : Program) (t : TypeId) (ps : List (Nat × Value)) : Option Value :=
  if (zeroP P t).any flat1 && ps.all (fun x => x.2.cells.toList.all oneCell) then (P.built t ps).map fun cs => .agg cs else none

theorem opW_build (d ty pos af g) (t : TypeId) (parts : List (Nat × Operand)) (l : List Value) (K : Value → Heap → Prop) :
    opW P ⟨d, .build t parts.toArray, ty, pos, af, g⟩ l H K = partsW parts l fun ps => bindV (builtV P t ps) fun v => K v H := by
  rw [partsW_eq]
  simp only [opW, Op.operands, opD, builtV, List.map_toArray]
  congr 1
  split
  · cases P.built t (parts.map fun (i, x) => (i, ev l x)) <;> simp [bindW, bindV]
  · simp [bindW, bindV]

/-- A slice out of its elements. -/
def sliceOfD (P : Program) (H : Heap) (t : TypeId) (len : Nat) (ps : List (Nat × Value)) : Option (Value × Heap) :=
  (sliceElem P t).bind fun elem => (sizeP P elem).bind fun size => (zeroP P elem).bind fun z =>
    if flat1 z && ps.all (fun x => x.2.cells.toList.all oneCell) && len * size ≤ 2 ^ 24 && len * size != 0 && z.cells.size == size then
      (Instr.fill (fun i => some (i * size, size)) ((Array.range (len * size)).map (z.cells[· % z.cells.size]!)) ps).map fun cs =>
        (.slice (some ⟨H.length, 0, some cs.toList.length⟩) len size, rowD H elem cs.toList)
    else none

def sliceOfW (P : Program) (H : Heap) (t : TypeId) (len : Nat) (ps : List (Nat × Value)) (K : Value → Heap → Prop) (_k : Keep K := ⟨⟩) : Prop := ∃ v H1, sliceOfD P H t len ps = some (v, H1) ∧ K v H1
theorem sliceOfW_congr {t : TypeId} {len : Nat} {ps ps' : List (Nat × Value)} {K : Value → Heap → Prop} (h : ps = ps') : sliceOfW P H t len ps K = sliceOfW P H t len ps' K := by rw [h]
attribute [congr] sliceOfW_congr

theorem opW_buildSlice (d ty pos af g) (t : TypeId) (len : Nat) (parts : List (Nat × Operand)) (l : List Value) (K : Value → Heap → Prop) :
    opW P ⟨d, .buildSlice t len parts.toArray, ty, pos, af, g⟩ l H K = partsW parts l fun ps => sliceOfW P H t len ps K := by
  rw [partsW_eq]
  simp only [opW, Op.operands, opD, List.map_toArray, sliceOfW, sliceOfD]
  rw [← bindW_ex]

def makeSliceD (P : Program) (H : Heap) (t : TypeId) (n c : Value) : Option (Value × Heap) :=
    (sliceElem P t).bind fun elem => (sizeP P elem).bind fun size => (bytesP P elem).bind fun bytes => (zeroP P elem).bind fun z =>
    match n, c with
    | .int .i64 a, .int .i64 b =>
      if flat1 z && a == b && 0 ≤ a && a * (bytes + 1) ≤ (roomD : Int) && size != 0 && z.cells.size == size then
        let cs := if size = 1 then List.replicate a.toNat (z.cells[0]!) else (madeCells z.cells (a.toNat * size)).toList
        some (.slice (some ⟨H.length, 0, some cs.length⟩) a.toNat size, rowD H elem cs)
      else none
    | _, _ => none

def makeSliceW (P : Program) (H : Heap) (t : TypeId) (n c : Value) (K : Value → Heap → Prop) (_k : Keep K := ⟨⟩) : Prop := ∃ v H1, makeSliceD P H t n c = some (v, H1) ∧ K v H1
theorem makeSliceW_congr {t : TypeId} {n n' c c' : Value} {K : Value → Heap → Prop} (h : n = n') (h2 : c = c') : makeSliceW P H t n c K = makeSliceW P H t n' c' K := by rw [h, h2]
attribute [congr] makeSliceW_congr

theorem opW_makeSlice (d ty pos af g) (t : TypeId) (n c : Operand) (l : List Value) (K : Value → Heap → Prop) :
    opW P ⟨d, .makeSlice t n c, ty, pos, af, g⟩ l H K = opdW n l fun n => opdW c l fun c => makeSliceW P H t n c K := by
  change ((#[n, c].toList.all operandOk = true) ∧ bindW (makeSliceD P H t (ev l n) (ev l c)) K) = _
  rw [bindW_ex]
  simp only [opdW, makeSliceW, List.all_cons, List.all_nil, Bool.and_true, Bool.and_eq_true, and_assoc]

/-- Appending. -/
def appendW (P : Program) (H : Heap) (t : TypeId) (s x : Value) (K : Value → Heap → Prop) (_k : Keep K := ⟨⟩) : Prop := ∃ v H1, appendD P H t s x = some (v, H1) ∧ K v H1
theorem appendW_congr {t : TypeId} {s s' x x' : Value} {K : Value → Heap → Prop} (h : s = s') (h2 : x = x') : appendW P H t s x K = appendW P H t s' x' K := by rw [h, h2]
attribute [congr] appendW_congr

def notIntT (P : Program) (t : TypeId) : Bool := ((P.underlying t).map notInt) == some true

theorem opW_append (d ty pos af g) (s x : Operand) (t1 t2 : TypeId) (l : List Value) (K : Value → Heap → Prop) :
    opW P ⟨d, .call { callee := .builtin .append, args := #[s, x], argTypes := #[t1, t2] }, ty, pos, af, g⟩ l H K = andW (notIntT P t2) (opdW s l fun s => opdW x l fun x => appendW P H t1 s x K) := by
  simp only [opW, opdW, Op.operands, Call.operands, opD, appendW, andW, notIntT]
  rw [← bindW_ex]
  by_cases h : (((P.underlying t2).map notInt) == some true) = true
  · simp [h, and_assoc]
  · simp [h, bindW]

def copyW (P : Program) (H : Heap) (t : TypeId) (s x : Value) (K : Value → Heap → Prop) (_k : Keep K := ⟨⟩) : Prop := ∃ v H1, copyD P H t s x = some (v, H1) ∧ K v H1
theorem copyW_congr {t : TypeId} {s s' x x' : Value} {K : Value → Heap → Prop} (h : s = s') (h2 : x = x') : copyW P H t s x K = copyW P H t s' x' K := by rw [h, h2]
attribute [congr] copyW_congr

theorem opW_copy (d ty pos af g) (s x : Operand) (t1 t2 : TypeId) (l : List Value) (K : Value → Heap → Prop) :
    opW P ⟨d, .call { callee := .builtin .copy, args := #[s, x], argTypes := #[t1, t2] }, ty, pos, af, g⟩ l H K = opdW s l fun s => opdW x l fun x => copyW P H t1 s x K := by
  simp only [opW, opdW, Op.operands, Call.operands, opD, copyW]
  rw [← bindW_ex]
  simp [and_assoc]

/-- How long something is. -/
def lenV (P : Program) (H : Heap) (t : TypeId) (v : Value) : Option Value :=
  match (P.underlying t), v with
  | some (.slice _), .slice a n k => lenD H (.slice a n k)
  | some .string, .string s => lenD H (.string s)
  | some (.map _ _), .map r => lenD H (.map r)
  | _, _ => none

theorem opW_len (d ty pos af g) (x : Operand) (t : TypeId) (l : List Value) (K : Value → Heap → Prop) :
    opW P ⟨d, .call { callee := .builtin .len, args := #[x], argTypes := #[t] }, ty, pos, af, g⟩ l H K = opdW x l fun x => bindV (lenV P H t x) fun v => K v H := by
  have h : opD P ⟨d, .call { callee := .builtin .len, args := #[x], argTypes := #[t] }, ty, pos, af, g⟩ l H = (lenV P H t (ev l x)).map fun v => (v, H) := by
    simp only [opD, lenV]
    simp only [List.size_toArray, List.length_cons, List.length_nil, Nat.zero_add, BEq.rfl, Bool.and_self, if_true]
    simp only [Array.getD_eq_getD_getElem?, List.getElem?_toArray, List.getElem?_cons_zero, Option.getD_some]
    cases P.underlying t with
    | none => rfl
    | some u => cases u <;> cases ev l x <;> rfl
  simp only [opW, h, opdW, Op.operands, Call.operands]
  have h2 : bindW ((lenV P H t (ev l x)).map fun v => (v, H)) K = bindV (lenV P H t (ev l x)) fun v => K v H := by cases lenV P H t (ev l x) <;> rfl
  rw [h2]
  simp

/-! ### Addresses -/
/-- The address of a field of an item of a slice. -/
def elemPtr (v : Value) (size j f : Nat) : Value := match v with
  | .slice (some ⟨A, i, s⟩) _ _ => .pointer (some ⟨A, i + j * size + f, s⟩)
  | _ => .pointer none

def fldV (P : Program) (s : TypeId) (f : Nat) (v : Value) : Option Value := match v with
  | .pointer (some ⟨A, i, some e⟩) => (fieldD P s f).bind fun fd => (sizeP P fd.type).bind fun n => if n == 0 then none else some (.pointer (some ⟨A, i + fd.offset, some e⟩))
  | _ => none

theorem opW_fieldAddr (d ty pos af g) (s : TypeId) (x : Operand) (f : Nat) (l : List Value) (K : Value → Heap → Prop) :
    opW P ⟨d, .fieldAddr s x f, ty, pos, af, g⟩ l H K = opdW x l fun x => bindV (fldV P s f x) fun v => K v H := by
  have h : opD P ⟨d, .fieldAddr s x f, ty, pos, af, g⟩ l H = (fldV P s f (ev l x)).map fun v => (v, H) := by
    simp only [opD, fldV]
    generalize ev l x = vx
    split
    · dsimp only
      cases fieldD P s f with
      | none => rfl
      | some fd =>
        simp only [Option.bind_some]
        cases sizeP P fd.type with
        | none => rfl
        | some n => simp only [Option.bind_some]; split <;> rfl
    · rename_i hne
      split
      · exact (hne _ _ _ rfl).elim
      · rfl
  have h2 : bindW ((fldV P s f (ev l x)).map fun v => (v, H)) K = bindV (fldV P s f (ev l x)) fun v => K v H := by cases fldV P s f (ev l x) <;> rfl
  simp only [opW, h, opdW, Op.operands, h2]
  simp

def idxV (P : Program) (t : TypeId) (v i : Value) : Option Value :=
  match P.underlying t, v, i with
    | some (.slice elem), .slice (some ⟨A, i, some e⟩) n _, .int _ j => (sizeP P elem).bind fun size =>
      if 0 ≤ j && j < n then some (.pointer (some ⟨A, i + j.toNat * size, some e⟩)) else none
    | some (.array n elem), .pointer (some ⟨A, i, some e⟩), .int _ j => (sizeP P elem).bind fun size =>
      if 0 ≤ j && j < n then some (.pointer (some ⟨A, i + j.toNat * size, some e⟩)) else none
    | _, _, _ => none

theorem opW_indexAddr (d ty pos af g) (t : TypeId) (x i : Operand) (l : List Value) (K : Value → Heap → Prop) :
    opW P ⟨d, .indexAddr t x i, ty, pos, af, g⟩ l H K = opdW x l fun x => opdW i l fun i => bindV (idxV P t x i) fun v => K v H := by
  have h : opD P ⟨d, .indexAddr t x i, ty, pos, af, g⟩ l H = (idxV P t (ev l x) (ev l i)).map fun v => (v, H) := by
    simp only [opD, idxV]
    generalize ev l x = vx
    generalize ev l i = vi
    generalize P.underlying t = u
    split
    · dsimp only
      cases sizeP P _ with
      | none => rfl
      | some n => simp only [Option.bind_some]; split <;> rfl
    · dsimp only
      cases sizeP P _ with
      | none => rfl
      | some n => simp only [Option.bind_some]; split <;> rfl
    · rename_i h1 h2
      split
      · exact (h1 _ _ _ _ _ _ _ _ rfl rfl rfl).elim
      · exact (h2 _ _ _ _ _ _ _ rfl rfl rfl).elim
      · rfl
  have h2 : bindW ((idxV P t (ev l x) (ev l i)).map fun v => (v, H)) K = bindV (idxV P t (ev l x) (ev l i)) fun v => K v H := by cases idxV P t (ev l x) (ev l i) <;> rfl
  simp only [opW, h, opdW, Op.operands, h2]
  simp [and_assoc]

/-! ### Numbers -/
def binW (P : Program) (o : Oper) (op : BinOp) (l : List Value) (H : Heap) (x y : Value) (K : Value → Heap → Prop) (_k : Keep K := ⟨⟩) : Prop := match x, y with
  | .int k a, .int k' b => (match (if k = k' then binI op k a b else none) with | some v => K v H | none => bindW (opD P o l H) K)
  | _, _ => bindW (opD P o l H) K
theorem binW_congr {o : Oper} {op : BinOp} {l : List Value} {x x' y y' : Value} {K : Value → Heap → Prop} (h : x = x') (h2 : y = y') : binW P o op l H x y K = binW P o op l H x' y' K := by rw [h, h2]
attribute [congr] binW_congr

theorem plain_fst (o o' : Oper) (l l' : List Value) (H : Heap) (h1 : o.op.operands.toList.map (ev l) = o'.op.operands.toList.map (ev l')) (h2 : execOp (ev l) o = execOp (ev l') o') :
    plainD P o l H = ((plainD P o' l' .nil).map (·.1)).map fun v => (v, H) := by
  have h3 : ∀ (l : List Value) (xs : List Operand), xs.all (fun x => flat (ev l x)) = (xs.map (ev l)).all flat := fun l xs => by simp [List.all_map, Function.comp_def]
  unfold plainD
  rw [h3, h1, ← h3, h2]
  split
  · split
    · split <;> rfl
    · rfl
  · rfl

theorem opW_bin (d ty pos af g) (op : BinOp) (t : TypeId) (x y : Operand) (t2 : TypeId) (l : List Value) (K : Value → Heap → Prop) :
    opW P ⟨d, .binOp op t x y t2, ty, pos, af, g⟩ l H K = opdW x l fun x' => opdW y l fun y' => binW P ⟨d, .binOp op t x y t2, ty, pos, af, g⟩ op l H x' y' K := by
  have h : bindW (opD P ⟨d, .binOp op t x y t2, ty, pos, af, g⟩ l H) K = binW P ⟨d, .binOp op t x y t2, ty, pos, af, g⟩ op l H (ev l x) (ev l y) K := by
    unfold binW
    split
    · rename_i k a k' b hx hy
      split
      · rename_i v hv
        split at hv
        · rename_i hk
          subst hk
          simp [opD, hx, hy, hv]
        · cases hv
      · rfl
    · rfl
  simp only [opW, h, opdW, Op.operands]
  simp [and_assoc]

theorem binW_int (o : Oper) (op : BinOp) (l : List Value) (k : IntKind) (a b : Int) {v : Value} (K : Value → Heap → Prop) (h : binI op k a b = some v) : binW P o op l H (.int k a) (.int k b) K = letV v fun v => K v H := by
  simp [binW, h, letV]
theorem binW_add (o : Oper) (l : List Value) (k : IntKind) (a b : Int) (K : Value → Heap → Prop) : binW P o .add l H (.int k a) (.int k b) K = letV (.int k (k.wrap (a + b))) fun v => K v H := binW_int _ _ _ _ _ _ _ (by simp [binI, addI_eq, subI_eq, wrapI_eq])
theorem binW_sub (o : Oper) (l : List Value) (k : IntKind) (a b : Int) (K : Value → Heap → Prop) : binW P o .sub l H (.int k a) (.int k b) K = letV (.int k (k.wrap (a - b))) fun v => K v H := binW_int _ _ _ _ _ _ _ (by simp [binI, addI_eq, subI_eq, wrapI_eq])
theorem binW_mul (o : Oper) (l : List Value) (k : IntKind) (a b : Int) (K : Value → Heap → Prop) : binW P o .mul l H (.int k a) (.int k b) K = letV (.int k (k.wrap (a * b))) fun v => K v H := binW_int _ _ _ _ _ _ _ (by simp [binI, addI_eq, subI_eq, wrapI_eq])
theorem binW_eql (o : Oper) (l : List Value) (k : IntKind) (a b : Int) (K : Value → Heap → Prop) : binW P o .eql l H (.int k a) (.int k b) K = letV (.bool (decide (a = b))) fun v => K v H := binW_int _ _ _ _ _ _ _ (by simp [binI, eqI_eq]; rfl)
theorem binW_neq (o : Oper) (l : List Value) (k : IntKind) (a b : Int) (K : Value → Heap → Prop) : binW P o .neq l H (.int k a) (.int k b) K = letV (.bool (decide (¬ a = b))) fun v => K v H := binW_int _ _ _ _ _ _ _ (by simp [binI, eqI_eq]; rfl)
theorem binW_lss (o : Oper) (l : List Value) (k : IntKind) (a b : Int) (K : Value → Heap → Prop) : binW P o .lss l H (.int k a) (.int k b) K = letV (.bool (decide (a < b))) fun v => K v H := binW_int _ _ _ _ _ _ _ (by simp [binI, ltI_eq])
theorem binW_leq (o : Oper) (l : List Value) (k : IntKind) (a b : Int) (K : Value → Heap → Prop) : binW P o .leq l H (.int k a) (.int k b) K = letV (.bool (decide (a ≤ b))) fun v => K v H := binW_int _ _ _ _ _ _ _ (by simp [binI, ltI_eq, ← Int.not_lt])
theorem binW_gtr (o : Oper) (l : List Value) (k : IntKind) (a b : Int) (K : Value → Heap → Prop) : binW P o .gtr l H (.int k a) (.int k b) K = letV (.bool (decide (b < a))) fun v => K v H := binW_int _ _ _ _ _ _ _ (by simp [binI, ltI_eq])
theorem binW_geq (o : Oper) (l : List Value) (k : IntKind) (a b : Int) (K : Value → Heap → Prop) : binW P o .geq l H (.int k a) (.int k b) K = letV (.bool (decide (b ≤ a))) fun v => K v H := binW_int _ _ _ _ _ _ _ (by simp [binI, ltI_eq, ← Int.not_lt])
theorem binW_rem (o : Oper) (l : List Value) (k : IntKind) (a b : Int) (K : Value → Heap → Prop) (hb : b ≠ 0) : binW P o .rem l H (.int k a) (.int k b) K = letV (.int k (a.tmod b)) fun v => K v H := binW_int _ _ _ _ _ _ _ (by
  have : (b == 0) = false := by simp [hb]
  simp [binI, eqI_eq, this])
theorem binW_quo (o : Oper) (l : List Value) (k : IntKind) (a b : Int) (K : Value → Heap → Prop) (hb : b ≠ 0) : binW P o .quo l H (.int k a) (.int k b) K = letV (.int k (k.wrap (a.tdiv b))) fun v => K v H := binW_int _ _ _ _ _ _ _ (by
  have : (b == 0) = false := by simp [hb]
  simp [binI, eqI_eq, wrapI_eq, this])

def unV (P : Program) (op : UnOp) (t : TypeId) (x : Value) : Option Value := (opD P ⟨none, .unOp op t (.const x), t, "", #[], none⟩ [] .nil).map (·.1)

theorem opW_un (d ty pos af g) (op : UnOp) (t : TypeId) (x : Operand) (l : List Value) (K : Value → Heap → Prop) :
    opW P ⟨d, .unOp op t x, ty, pos, af, g⟩ l H K = opdW x l fun x => bindV (unV P op t x) fun v => K v H := by
  have h : opD P ⟨d, .unOp op t x, ty, pos, af, g⟩ l H = (unV P op t (ev l x)).map fun v => (v, H) := by
    have hp := plain_fst (P := P) ⟨d, .unOp op t x, ty, pos, af, g⟩ ⟨none, .unOp op t (.const (ev l x)), t, "", #[], none⟩ l [] H rfl rfl
    simp only [opD, unV, hp]
    generalize plainD P _ _ _ = r
    have e1 : ∀ v, ev [] (.const v) = v := fun _ => rfl
    simp only [e1]
    generalize ev l x = vx
    split <;> simp
  have h2 : bindW ((unV P op t (ev l x)).map fun v => (v, H)) K = bindV (unV P op t (ev l x)) fun v => K v H := by cases unV P op t (ev l x) <;> rfl
  simp only [opW, h, opdW, Op.operands, h2]
  simp
theorem unV_not (t : TypeId) (b : Bool) : unV P .not t (.bool b) = some (.bool (!b)) := by simp [unV, opD, ev]

def convV (P : Program) (s t : TypeId) (x : Value) : Option Value := (plainD P ⟨none, .convert s t (.const x), t, "", #[], none⟩ [] .nil).map (·.1)
theorem opW_convert (d ty pos af g) (s t : TypeId) (x : Operand) (l : List Value) (K : Value → Heap → Prop) :
    opW P ⟨d, .convert s t x, ty, pos, af, g⟩ l H K = opdW x l fun x => bindV (convV P s t x) fun v => K v H := by
  have h : opD P ⟨d, .convert s t x, ty, pos, af, g⟩ l H = (convV P s t (ev l x)).map fun v => (v, H) :=
    plain_fst (P := P) ⟨d, .convert s t x, ty, pos, af, g⟩ ⟨none, .convert s t (.const (ev l x)), t, "", #[], none⟩ l [] H rfl rfl
  have h2 : bindW ((convV P s t (ev l x)).map fun v => (v, H)) K = bindV (convV P s t (ev l x)) fun v => K v H := by cases convV P s t (ev l x) <;> rfl
  simp only [opW, h, opdW, Op.operands, h2]
  simp

/-! ### Parts of values -/
def extrV (v : Value) (i : Nat) : Option Value := match v with | .tuple vs => vs[i]? | _ => none
theorem opW_extract (d ty pos af g) (x : Operand) (i : Nat) (l : List Value) (K : Value → Heap → Prop) :
    opW P ⟨d, .extract x i, ty, pos, af, g⟩ l H K = opdW x l fun x => bindV (extrV x i) fun v => K v H := by
  have h : opD P ⟨d, .extract x i, ty, pos, af, g⟩ l H = (extrV (ev l x) i).map fun v => (v, H) := by
    simp only [opD, extrV]
    generalize ev l x = vx
    cases vx <;> rfl
  have h2 : bindW ((extrV (ev l x) i).map fun v => (v, H)) K = bindV (extrV (ev l x) i) fun v => K v H := by cases extrV (ev l x) i <;> rfl
  simp only [opW, h, opdW, Op.operands, h2]
  simp
theorem extrV_zero (a : Value) (l : List Value) : extrV (.tuple (a :: l).toArray) 0 = some a := by simp [extrV]
theorem extrV_one (a b : Value) (l : List Value) : extrV (.tuple (a :: b :: l).toArray) 1 = some b := by simp [extrV]
theorem extrV_two (a b c : Value) (l : List Value) : extrV (.tuple (a :: b :: c :: l).toArray) 2 = some c := by simp [extrV]

def fieldV (P : Program) (t : TypeId) (v : Value) (f : Nat) : Option Value := (opD P ⟨none, .field t (.const v) f, t, "", #[], none⟩ [] .nil).map (·.1)
theorem opW_field (d ty pos af g) (t : TypeId) (x : Operand) (f : Nat) (l : List Value) (K : Value → Heap → Prop) :
    opW P ⟨d, .field t x f, ty, pos, af, g⟩ l H K = opdW x l fun x => bindV (fieldV P t x f) fun v => K v H := by
  have h : opD P ⟨d, .field t x f, ty, pos, af, g⟩ l H = (fieldV P t (ev l x) f).map fun v => (v, H) := by
    have hp := plain_fst (P := P) ⟨d, .field t x f, ty, pos, af, g⟩ ⟨none, .field t (.const (ev l x)) f, t, "", #[], none⟩ l [] H rfl rfl
    simp only [opD, fieldV, hp]
    generalize plainD P _ _ _ = r
    have e1 : ∀ v, ev [] (.const v) = v := fun _ => rfl
    simp only [e1]
    generalize ev l x = vx
    split
    · cases r <;> rfl
    · rename_i hfl
      cases vx <;> try rfl
      rename_i cs
      dsimp only
      cases fieldD P t f with
      | none => rfl
      | some fd =>
        simp only [Option.bind_some]
        cases aggP P fd.type with
        | none => rfl
        | some b =>
          cases b
          · dsimp only; cases cs[fd.offset]? <;> rfl
          · dsimp only; cases sizeP P fd.type <;> rfl
  have h2 : bindW ((fieldV P t (ev l x) f).map fun v => (v, H)) K = bindV (fieldV P t (ev l x) f) fun v => K v H := by cases fieldV P t (ev l x) f <;> rfl
  simp only [opW, h, opdW, Op.operands, h2]
  simp

end
end Go.Ds
