/-
  Ds: the rules of the symbolic run, in two bundles.
-/
import Derived.Test.YtoanhpaipfgnfaaDsY
set_option linter.unusedVariables false
set_option linter.unusedSimpArgs false
namespace Go.Ds
theorem flat_int (k : IntKind) (n : Int) : flat (.int k n) = true := rfl
theorem flat_bool (b : Bool) : flat (.bool b) = true := rfl
theorem flat_slice : flat (.slice none 0 0) = true := rfl
theorem flat1_int (k : IntKind) (n : Int) : flat1 (.int k n) = true := rfl
theorem flat1_bool (b : Bool) : flat1 (.bool b) = true := rfl
theorem dstAt_eq (ops : List Oper) (j : Nat) : dstAt ops.toArray j = (ops[j]?).bind (·.dst) := by simp [dstAt]
theorem flat1_agg (l : List Value) : flat1 (.agg l.toArray) = l.all scalar := by simp [flat1, scalars]
theorem flat_agg (l : List Value) : flat (.agg l.toArray) = l.all scalar := by simp [flat, flat1, scalars]
theorem flat1_nil : flat1 (.slice none 0 0) = true := rfl
theorem flat_nilFunc : flat .nilFunc = true := rfl
theorem scalar_int (k : IntKind) (n : Int) : scalar (.int k n) = true := rfl
theorem scalar_bool (b : Bool) : scalar (.bool b) = true := rfl
theorem scalar_nil : scalar (.slice none 0 0) = true := rfl
theorem isC0_ptr (A i e : Nat) : isC0 (ptr A i e) = true := rfl
theorem noTuple_int (k : IntKind) (n : Int) : noTuple (.int k n) = true := rfl
theorem noTuple_bool (b : Bool) : noTuple (.bool b) = true := rfl
theorem noTuple_nil : noTuple (.slice none 0 0) = true := rfl
theorem noTuple_agg (cs : Array Value) : noTuple (.agg cs) = true := rfl
theorem RP :
    (∀ {P : Program} {H : Heap} (ops : Array Oper) (d : Option Tmp) (op : Op) (ty : TypeId) (pos : String) (af : Array Edge) (os : List Oper) (l : List Value) (K : List Value → Heap → Prop), opsW P ops (⟨d, op, ty, pos, af, none⟩ :: os) l H K = opW P ⟨d, op, ty, pos, af, none⟩ l H fun v H1 => opsW P ops os (put l d v) H1 K) ∧
    (∀ {P : Program} {H : Heap} (ops : Array Oper) (d : Option Tmp) (op : Op) (ty : TypeId) (pos : String) (af : Array Edge) (j : Nat) (b : Bool) (os : List Oper) (l : List Value) (K : List Value → Heap → Prop), opsW P ops (⟨d, op, ty, pos, af, some (j, b)⟩ :: os) l H K = guardW (dstAt ops j) l b (opW P ⟨d, op, ty, pos, af, some (j, b)⟩ l H fun v H1 => opsW P ops os (put l d v) H1 K) (opsW P ops os (put l d undef) H K)) ∧
    (∀ {P : Program} {H : Heap} (ops : Array Oper) (d : Option Tmp) (op : Op) (ty : TypeId) (pos : String) (af : Array Edge) (os : List Oper) (tr : List (List Value × Heap × Value)) (l : List Value) (K : List (List Value × Heap × Value) → List Value → Heap → Prop), opsTW P ops (⟨d, op, ty, pos, af, none⟩ :: os) tr l H K = opW P ⟨d, op, ty, pos, af, none⟩ l H fun v H1 => opsTW P ops os (tr ++ [(l, H, v)]) (put l d v) H1 K) ∧
    (∀ {P : Program} {H : Heap} (ops : Array Oper) (d : Option Tmp) (op : Op) (ty : TypeId) (pos : String) (af : Array Edge) (j : Nat) (b : Bool) (os : List Oper) (tr : List (List Value × Heap × Value)) (l : List Value) (K : List (List Value × Heap × Value) → List Value → Heap → Prop), opsTW P ops (⟨d, op, ty, pos, af, some (j, b)⟩ :: os) tr l H K = guardW (dstAt ops j) l b (opW P ⟨d, op, ty, pos, af, some (j, b)⟩ l H fun v H1 => opsTW P ops os (tr ++ [(l, H, v)]) (put l d v) H1 K) (opsTW P ops os (tr ++ [(l, H, undef)]) (put l d undef) H K)) ∧
    (∀ {P : Program} {H : Heap} (d : Option Tmp) (ty : TypeId) (pos : String) (af : Array Edge) (g : Option (Nat × Bool)) (x : Operand) (l : List Value) (K : Value → Heap → Prop), opW P ⟨d, .move x, ty, pos, af, g⟩ l H K = opdW x l fun v => K v H) ∧
    (∀ {P : Program} {H : Heap} (d : Option Tmp) (ty : TypeId) (pos : String) (af : Array Edge) (g : Option (Nat × Bool)) (x : Operand) (l : List Value) (K : Value → Heap → Prop), opW P ⟨d, .assign x, ty, pos, af, g⟩ l H K = opdW x l fun v => K v H) ∧
    (∀ {P : Program} {H : Heap} (d : Option Tmp) (ty : TypeId) (pos : String) (af : Array Edge) (g : Option (Nat × Bool)) (c a b : Operand) (l : List Value) (K : Value → Heap → Prop), opW P ⟨d, .pick c a b, ty, pos, af, g⟩ l H K = opdW c l fun c => opdW a l fun a => opdW b l fun b => pickW c a b fun v => K v H) ∧
    (∀ {P : Program} {H : Heap} (d : Option Tmp) (ty : TypeId) (pos : String) (af : Array Edge) (g : Option (Nat × Bool)) (t : TypeId) (a : Operand) (l : List Value) (K : Value → Heap → Prop), opW P ⟨d, .load t a, ty, pos, af, g⟩ l H K = opdW a l fun p => bindV (ldW (aggP P t) (sizeP P t) H p) fun v => K v H) ∧
    (∀ {P : Program} {H : Heap} (d : Option Tmp) (ty : TypeId) (pos : String) (af : Array Edge) (g : Option (Nat × Bool)) (t : TypeId) (a x : Operand) (l : List Value) (K : Value → Heap → Prop), opW P ⟨d, .store t a x, ty, pos, af, g⟩ l H K = opdW a l fun p => opdW x l fun v => storeW P H t p v fun H1 => K undef H1) ∧
    (∀ {P : Program} {H : Heap} (d : Option Tmp) (ty : TypeId) (pos : String) (af : Array Edge) (g : Option (Nat × Bool)) (t : TypeId) (l : List Value) (K : Value → Heap → Prop), opW P ⟨d, .alloc t, ty, pos, af, g⟩ l H K = allocW P H t (zeroP P t) K) ∧
    (∀ {P : Program} {H : Heap} (d : Option Tmp) (ty : TypeId) (pos : String) (af : Array Edge) (g : Option (Nat × Bool)) (t : TypeId) (x : Operand) (l : List Value) (K : Value → Heap → Prop), opW P ⟨d, .box t x, ty, pos, af, g⟩ l H K = opdW x l fun v => newW P H t v K) ∧
    (∀ {P : Program} {H : Heap} (d : Option Tmp) (ty : TypeId) (pos : String) (af : Array Edge) (g : Option (Nat × Bool)) (t : TypeId) (parts : List (Nat × Operand)) (l : List Value) (K : Value → Heap → Prop), opW P ⟨d, .build t parts.toArray, ty, pos, af, g⟩ l H K = partsW parts l fun ps => bindV (builtV P t ps) fun v => K v H) ∧
    (∀ {P : Program} {H : Heap} (d : Option Tmp) (ty : TypeId) (pos : String) (af : Array Edge) (g : Option (Nat × Bool)) (t : TypeId) (len : Nat) (parts : List (Nat × Operand)) (l : List Value) (K : Value → Heap → Prop), opW P ⟨d, .buildSlice t len parts.toArray, ty, pos, af, g⟩ l H K = partsW parts l fun ps => sliceOfW P H t len ps K) ∧
    (∀ {P : Program} {H : Heap} (d : Option Tmp) (ty : TypeId) (pos : String) (af : Array Edge) (g : Option (Nat × Bool)) (t : TypeId) (n c : Operand) (l : List Value) (K : Value → Heap → Prop), opW P ⟨d, .makeSlice t n c, ty, pos, af, g⟩ l H K = opdW n l fun n => opdW c l fun c => makeSliceW P H t n c K) ∧
    (∀ {P : Program} {H : Heap} (d : Option Tmp) (ty : TypeId) (pos : String) (af : Array Edge) (g : Option (Nat × Bool)) (s x : Operand) (t1 t2 : TypeId) (l : List Value) (K : Value → Heap → Prop), opW P ⟨d, .call { callee := .builtin .append, args := #[s, x], argTypes := #[t1, t2] }, ty, pos, af, g⟩ l H K = andW (notIntT P t2) (opdW s l fun s => opdW x l fun x => appendW P H t1 s x K)) ∧
    (∀ {P : Program} {H : Heap} (d : Option Tmp) (ty : TypeId) (pos : String) (af : Array Edge) (g : Option (Nat × Bool)) (s x : Operand) (t1 t2 : TypeId) (l : List Value) (K : Value → Heap → Prop), opW P ⟨d, .call { callee := .builtin .copy, args := #[s, x], argTypes := #[t1, t2] }, ty, pos, af, g⟩ l H K = opdW s l fun s => opdW x l fun x => copyW P H t1 s x K) ∧
    (∀ {P : Program} {H : Heap} (d : Option Tmp) (ty : TypeId) (pos : String) (af : Array Edge) (g : Option (Nat × Bool)) (x : Operand) (t : TypeId) (l : List Value) (K : Value → Heap → Prop), opW P ⟨d, .call { callee := .builtin .len, args := #[x], argTypes := #[t] }, ty, pos, af, g⟩ l H K = opdW x l fun x => bindV (lenV P H t x) fun v => K v H) ∧
    (∀ {P : Program} {H : Heap} (d : Option Tmp) (ty : TypeId) (pos : String) (af : Array Edge) (g : Option (Nat × Bool)) (s : TypeId) (x : Operand) (f : Nat) (l : List Value) (K : Value → Heap → Prop), opW P ⟨d, .fieldAddr s x f, ty, pos, af, g⟩ l H K = opdW x l fun x => bindV (fldV P s f x) fun v => K v H) ∧
    (∀ {P : Program} {H : Heap} (d : Option Tmp) (ty : TypeId) (pos : String) (af : Array Edge) (g : Option (Nat × Bool)) (t : TypeId) (x i : Operand) (l : List Value) (K : Value → Heap → Prop), opW P ⟨d, .indexAddr t x i, ty, pos, af, g⟩ l H K = opdW x l fun x => opdW i l fun i => bindV (idxV P t x i) fun v => K v H) ∧
    (∀ {P : Program} {H : Heap} (d : Option Tmp) (ty : TypeId) (pos : String) (af : Array Edge) (g : Option (Nat × Bool)) (op : BinOp) (t : TypeId) (x y : Operand) (t2 : TypeId) (l : List Value) (K : Value → Heap → Prop), opW P ⟨d, .binOp op t x y t2, ty, pos, af, g⟩ l H K = opdW x l fun x' => opdW y l fun y' => binW P ⟨d, .binOp op t x y t2, ty, pos, af, g⟩ op l H x' y' K) ∧
    (∀ {P : Program} {H : Heap} (d : Option Tmp) (ty : TypeId) (pos : String) (af : Array Edge) (g : Option (Nat × Bool)) (op : UnOp) (t : TypeId) (x : Operand) (l : List Value) (K : Value → Heap → Prop), opW P ⟨d, .unOp op t x, ty, pos, af, g⟩ l H K = opdW x l fun x => bindV (unV P op t x) fun v => K v H) ∧
    (∀ {P : Program} {H : Heap} (d : Option Tmp) (ty : TypeId) (pos : String) (af : Array Edge) (g : Option (Nat × Bool)) (s t : TypeId) (x : Operand) (l : List Value) (K : Value → Heap → Prop), opW P ⟨d, .convert s t x, ty, pos, af, g⟩ l H K = opdW x l fun x => bindV (convV P s t x) fun v => K v H) ∧
    (∀ {P : Program} {H : Heap} (d : Option Tmp) (ty : TypeId) (pos : String) (af : Array Edge) (g : Option (Nat × Bool)) (x : Operand) (i : Nat) (l : List Value) (K : Value → Heap → Prop), opW P ⟨d, .extract x i, ty, pos, af, g⟩ l H K = opdW x l fun x => bindV (extrV x i) fun v => K v H) ∧
    (∀ {P : Program} {H : Heap} (d : Option Tmp) (ty : TypeId) (pos : String) (af : Array Edge) (g : Option (Nat × Bool)) (t : TypeId) (x : Operand) (f : Nat) (l : List Value) (K : Value → Heap → Prop), opW P ⟨d, .field t x f, ty, pos, af, g⟩ l H K = opdW x l fun x => bindV (fieldV P t x f) fun v => K v H) ∧
    (∀ {P : Program} {H : Heap} (d : Option Tmp) (ty : TypeId) (pos : String) (af : Array Edge) (g : Option (Nat × Bool)) (f : Operand) (args : List Operand) (ts : Array TypeId) (l : List Value) (K : Value → Heap → Prop), opW P ⟨d, .call { callee := .value f, args := args.toArray, argTypes := ts }, ty, pos, af, g⟩ l H K = opdW f l fun f => opdsW args l fun vs => callW P f vs H K) ∧
    (∀ {P : Program} {H : Heap} (d : Option Tmp) (ty : TypeId) (pos : String) (af : Array Edge) (g : Option (Nat × Bool)) (f : FuncId) (captured : List Operand) (l : List Value) (K : Value → Heap → Prop), opW P ⟨d, .makeFunc (.func f) #[] captured.toArray, ty, pos, af, g⟩ l H K = opdsW captured l fun vs => andW (vs.all isC0) (K (.func (.func f) #[] vs.toArray) H)) ∧
    (∀ {P : Program} {H : Heap} (d : Option Tmp) (ty : TypeId) (pos : String) (af : Array Edge) (g : Option (Nat × Bool)) (t : TypeId) (x a : Operand) (l : List Value) (K : Value → Heap → Prop), opW P ⟨d, .slice t x (some a) none none, ty, pos, af, g⟩ l H K = opdW x l fun v => opdW a l fun a' => sliceW P ⟨d, .slice t x (some a) none none, ty, pos, af, g⟩ l H (sliceSz P t) v (some a') none K) ∧
    (∀ {P : Program} {H : Heap} (d : Option Tmp) (ty : TypeId) (pos : String) (af : Array Edge) (g : Option (Nat × Bool)) (t : TypeId) (x a : Operand) (l : List Value) (K : Value → Heap → Prop), opW P ⟨d, .slice t x none (some a) none, ty, pos, af, g⟩ l H K = opdW x l fun v => opdW a l fun a' => sliceW P ⟨d, .slice t x none (some a) none, ty, pos, af, g⟩ l H (sliceSz P t) v none (some a') K) ∧
    (∀ {P : Program} {H : Heap} (d : Option Tmp) (ty : TypeId) (pos : String) (af : Array Edge) (g : Option (Nat × Bool)) (t : TypeId) (x a b : Operand) (l : List Value) (K : Value → Heap → Prop), opW P ⟨d, .slice t x (some a) (some b) none, ty, pos, af, g⟩ l H K = opdW x l fun v => opdW a l fun a' => opdW b l fun b' => sliceW P ⟨d, .slice t x (some a) (some b) none, ty, pos, af, g⟩ l H (sliceSz P t) v (some a') (some b') K) ∧
    (∀ (t : Tmp) (l : List Value) (K : Value → Prop), opdW (.tmp t) l K = letV (get l t) K) ∧
    (∀ (v : Value) (l : List Value) (K : Value → Prop), opdW (.const v) l K = andW (flat v) (K v)) ∧
    (∀ (f : FuncId) (l : List Value) (K : Value → Prop), opdW (.func f) l K = K (.func (.func f) #[] #[])) ∧
    (∀ (l : List Value) (K : List Value → Prop), opdsW [] l K = K []) ∧
    (∀ (x : Operand) (xs : List Operand) (l : List Value) (K : List Value → Prop), opdsW (x :: xs) l K = opdW x l fun v => opdsW xs l fun vs => K (v :: vs)) ∧
    (∀ (l : List Value) (K : List (Nat × Value) → Prop), partsW [] l K = K []) ∧
    (∀ (i : Nat) (x : Operand) (xs : List (Nat × Operand)) (l : List Value) (K : List (Nat × Value) → Prop), partsW ((i, x) :: xs) l K = opdW x l fun v => partsW xs l fun vs => K ((i, v) :: vs)) ∧
    (∀ (d : Tmp) (l : List Value) (b : Bool) (p q : Prop), guardW (some d) l b p q = letG (get l d) b p q) ∧
    (∀ {P : Program} {H : Heap} (ops : Array Oper) (l : List Value) (K : List Value → Heap → Prop), opsW P ops [] l H K = K l H) ∧
    (∀ {P : Program} {H : Heap} (ops : Array Oper) (tr : List (List Value × Heap × Value)) (l : List Value) (K : List (List Value × Heap × Value) → List Value → Heap → Prop), opsTW P ops [] tr l H K = K tr l H) ∧
    (∀ {P : Program} {H : Heap} (b : Code) (Q : Out) (l : List Value), seqQ P b Q .normal l H = Wp P b l H Q) ∧
    (∀ {P : Program} {H : Heap} (b : Code) (Q : Out) (i : Nat) (l : List Value), seqQ P b Q (.exit i) l H = Q (.exit i) l H) ∧
    (∀ {P : Program} {H : Heap} (b : Code) (Q : Out) (l : List Value), seqQ P b Q .ret l H = Q .ret l H) ∧
    (∀ {H : Heap} (id : Nat) (Q : Out) (l : List Value), blockQ id Q .normal l H = Q .normal l H) ∧
    (∀ {H : Heap} (id : Nat) (Q : Out) (l : List Value), blockQ id Q .ret l H = Q .ret l H) ∧
    (∀ {H : Heap} (id i : Nat) (Q : Out) (l : List Value), blockQ id Q (.exit i) l H = if i = id then Q .normal l H else Q (.exit i) l H) ∧
    (∀ {H : Heap} (I : Nat → List Value → Heap → Prop) (n : Nat) (Q : Out) (l : List Value), roundQ I n Q .normal l H = ∃ m, m < n ∧ I m l H) ∧
    (∀ {H : Heap} (I : Nat → List Value → Heap → Prop) (n : Nat) (Q : Out) (i : Nat) (l : List Value), roundQ I n Q (.exit i) l H = Q (.exit i) l H) ∧
    (∀ {H : Heap} (I : Nat → List Value → Heap → Prop) (n : Nat) (Q : Out) (l : List Value), roundQ I n Q .ret l H = Q .ret l H) ∧
    (∀ {P : Program} {H : Heap} (fn : Func) (R : Value → Heap → Prop) (l : List Value), endQ P fn R .normal l H = bindV (resultsD P fn l H) fun v => R v H) ∧
    (∀ {P : Program} {H : Heap} (fn : Func) (R : Value → Heap → Prop) (l : List Value), endQ P fn R .ret l H = bindV (resultsD P fn l H) fun v => R v H) :=
  ⟨@opsW_cons, @opsW_guard, @opsTW_cons, @opsTW_guard, @opW_move, @opW_assign, @opW_pick, @opW_load, @opW_store, @opW_alloc, @opW_box, @opW_build, @opW_buildSlice, @opW_makeSlice, @opW_append, @opW_copy, @opW_len, @opW_fieldAddr, @opW_indexAddr, @opW_bin, @opW_un, @opW_convert, @opW_extract, @opW_field, @opW_call, @opW_makeFunc, @opW_sliceL, @opW_sliceH, @opW_sliceB, @opdW_tmp, @opdW_const, @opdW_func, @opdsW_nil, @opdsW_cons, @partsW_nil, @partsW_cons, @guardW_some, @opsW_nil, @opsTW_nil, @seqQ_normal, @seqQ_exit, @seqQ_ret, @blockQ_normal, @blockQ_ret, @blockQ_exit, @roundQ_normal, @roundQ_exit, @roundQ_ret, @endQ_normal, @endQ_ret⟩
theorem RQ :
    (∀ (v : Value) (K : Value → Prop), letV v K = K v) ∧
    (∀ (v : Value) (K : Value → Prop), bindV (some v) K = K v) ∧
    (∀ (v : Value) (H1 : Heap) (K : Value → Heap → Prop), bindW (some (v, H1)) K = K v H1) ∧
    (∀ (p : Prop), andW true p = p) ∧
    (∀ (a b : Value) (K : Value → Prop), pickW (.bool true) a b K = K a) ∧
    (∀ (a b : Value) (K : Value → Prop), pickW (.bool false) a b K = K b) ∧
    (∀ (c x y : Bool) (K : Value → Prop), pickW (.bool c) (.bool x) (.bool y) K = K (.bool (if c then x else y))) ∧
    (∀ {P : Program} {H : Heap} (t : TypeId) (z : Value) (K : Value → Heap → Prop), allocW P H t (some z) K = andW (flat1 z) (newW P H t z K)) ∧
    (∀ {P : Program} {H : Heap} (k : FuncId) (a b : List Value) (args : List Value) (K : Value → Heap → Prop), callW P (.func (.func k) a.toArray b.toArray) args H K = callFW P k (a ++ args ++ b) H K) ∧
    (∀ (p q : Prop), letG (.bool true) true p q = p) ∧
    (∀ (p q : Prop), letG (.bool false) false p q = p) ∧
    (∀ (p q : Prop), letG (.bool true) false p q = q) ∧
    (∀ (p q : Prop), letG (.bool false) true p q = q) ∧
    (∀ (p q : Prop), condW (.bool true) p q = p) ∧
    (∀ (p q : Prop), condW (.bool false) p q = q) ∧
    (∀ {P : Program} {H : Heap} (t : TypeId) (v : Value), lenV P H t v = lenS (sliceSz P t) P H t v) ∧
    (∀ {P : Program} (t : TypeId) (v i : Value), idxV P t v i = idxS (sliceSz P t) P t v i) ∧
    (∀ {P : Program} (s : TypeId) (f : Nat) (v : Value), fldV P s f v = fldS (fldOff P s f) v) ∧
    (∀ (d A i e : Nat), fldS (some d) (ptr A i e) = some (ptr A (i + d) e)) ∧
    (∀ {P : Program} {H : Heap} (o : Oper) (l : List Value) (k : IntKind) (a b : Int) (K : Value → Heap → Prop), binW P o .add l H (.int k a) (.int k b) K = letV (.int k (k.wrap (a + b))) fun v => K v H) ∧
    (∀ {P : Program} {H : Heap} (o : Oper) (l : List Value) (k : IntKind) (a b : Int) (K : Value → Heap → Prop), binW P o .sub l H (.int k a) (.int k b) K = letV (.int k (k.wrap (a - b))) fun v => K v H) ∧
    (∀ {P : Program} {H : Heap} (o : Oper) (l : List Value) (k : IntKind) (a b : Int) (K : Value → Heap → Prop), binW P o .mul l H (.int k a) (.int k b) K = letV (.int k (k.wrap (a * b))) fun v => K v H) ∧
    (∀ {P : Program} {H : Heap} (o : Oper) (l : List Value) (k : IntKind) (a b : Int) (K : Value → Heap → Prop), binW P o .eql l H (.int k a) (.int k b) K = letV (.bool (decide (a = b))) fun v => K v H) ∧
    (∀ {P : Program} {H : Heap} (o : Oper) (l : List Value) (k : IntKind) (a b : Int) (K : Value → Heap → Prop), binW P o .neq l H (.int k a) (.int k b) K = letV (.bool (decide (¬ a = b))) fun v => K v H) ∧
    (∀ {P : Program} {H : Heap} (o : Oper) (l : List Value) (k : IntKind) (a b : Int) (K : Value → Heap → Prop), binW P o .lss l H (.int k a) (.int k b) K = letV (.bool (decide (a < b))) fun v => K v H) ∧
    (∀ {P : Program} {H : Heap} (o : Oper) (l : List Value) (k : IntKind) (a b : Int) (K : Value → Heap → Prop), binW P o .leq l H (.int k a) (.int k b) K = letV (.bool (decide (a ≤ b))) fun v => K v H) ∧
    (∀ {P : Program} {H : Heap} (o : Oper) (l : List Value) (k : IntKind) (a b : Int) (K : Value → Heap → Prop), binW P o .gtr l H (.int k a) (.int k b) K = letV (.bool (decide (b < a))) fun v => K v H) ∧
    (∀ {P : Program} {H : Heap} (o : Oper) (l : List Value) (k : IntKind) (a b : Int) (K : Value → Heap → Prop), binW P o .geq l H (.int k a) (.int k b) K = letV (.bool (decide (b ≤ a))) fun v => K v H) ∧
    (∀ {P : Program} (t : TypeId) (b : Bool), unV P .not t (.bool b) = some (.bool (!b))) ∧
    (∀ (l : List Value) (k t : Nat) (v : Value), get (put l (some k) v) t = if k = t then (if k < l.length then v else get l t) else get l t) ∧
    (∀ (l : List Value) (k : Nat) (v : Value), (put l (some k) v).length = l.length) ∧
    (∀ (l : List Value) (v : Value), put l none v = l) ∧
    (∀ (k : IntKind) (n : Int), flat (.int k n) = true) ∧
    (∀ (b : Bool), flat (.bool b) = true) ∧
    (flat (.slice none 0 0) = true) ∧
    (∀ (k : IntKind) (n : Int), flat1 (.int k n) = true) ∧
    (∀ (b : Bool), flat1 (.bool b) = true) ∧
    (∀ (ops : List Oper) (j : Nat), dstAt ops.toArray j = (ops[j]?).bind (·.dst)) ∧
    (∀ (a : Value) (l : List Value), extrV (.tuple (a :: l).toArray) 0 = some a) ∧
    (∀ (a b : Value) (l : List Value), extrV (.tuple (a :: b :: l).toArray) 1 = some b) ∧
    (∀ (a b c : Value) (l : List Value), extrV (.tuple (a :: b :: c :: l).toArray) 2 = some c) ∧
    (∀ (b : Bool) (p q : Prop), letG undef b p q = q) ∧
    (∀ (f : Nat → Nat → Prop), tabOk f [] = True) ∧
    (∀ (f : Nat → Nat → Prop) (i m : Nat) (r : List (Nat × Nat)), tabOk f ((i, m) :: r) = (f i m ∧ tabOk f r)) ∧
    (∀ {P : Program} (os : List Oper) (tr : List (List Value × Heap × Value)) (H1 : Heap) (i m : Nat), rdOk P os.toArray tr H1 i m = rdW P os.toArray os[i]? tr[i]? (trH tr[m]? H1)) ∧
    (∀ {P : Program} {H : Heap} (ops : Array Oper) (d : Option Tmp) (op : Op) (ty : TypeId) (pos : String) (af : Array Edge) (l : List Value) (H' : Heap) (v : Value), rdW P ops (some ⟨d, op, ty, pos, af, none⟩) (some (l, H', v)) H = opW P ⟨d, op, ty, pos, af, none⟩ l H fun v' _ => v' = v) ∧
    (∀ (l : List Value) (H : Heap) (v : Value) (H1 : Heap), trH (some (l, H, v)) H1 = H) ∧
    (∀ (H1 : Heap), trH none H1 = H1) ∧
    (∀ {P : Program} {H : Heap} (o : Oper) (l : List Value) (k : IntKind) (a b : Int) (K : Value → Heap → Prop) (hb : b ≠ 0), binW P o .rem l H (.int k a) (.int k b) K = letV (.int k (a.tmod b)) fun v => K v H) ∧
    (∀ {P : Program} {H : Heap} (o : Oper) (l : List Value) (k : IntKind) (a b : Int) (K : Value → Heap → Prop) (hb : b ≠ 0), binW P o .quo l H (.int k a) (.int k b) K = letV (.int k (k.wrap (a.tdiv b))) fun v => K v H) ∧
    (∀ (l : List Value), flat1 (.agg l.toArray) = l.all scalar) ∧
    (∀ (l : List Value), flat (.agg l.toArray) = l.all scalar) ∧
    (flat1 (.slice none 0 0) = true) ∧
    (flat .nilFunc = true) ∧
    (∀ (k : IntKind) (n : Int), scalar (.int k n) = true) ∧
    (∀ (b : Bool), scalar (.bool b) = true) ∧
    (scalar (.slice none 0 0) = true) ∧
    (∀ (A i e : Nat), isC0 (ptr A i e) = true) ∧
    (∀ (k : IntKind) (n : Int), noTuple (.int k n) = true) ∧
    (∀ (b : Bool), noTuple (.bool b) = true) ∧
    (noTuple (.slice none 0 0) = true) ∧
    (∀ (cs : Array Value), noTuple (.agg cs) = true) :=
  ⟨@letV_eq, @bindV_some, @bindW_some, @andW_true, @pickW_true, @pickW_false, @pickW_bools, @allocW_some, @callW_func, @letG_tt, @letG_ff, @letG_tf, @letG_ft, @condW_true, @condW_false, @lenV_eq, @idxV_eq, @fldV_eq, @fldS_ptr, @binW_add, @binW_sub, @binW_mul, @binW_eql, @binW_neq, @binW_lss, @binW_leq, @binW_gtr, @binW_geq, @unV_not, @get_putS, @put_lengthS, @put_none, @flat_int, @flat_bool, @flat_slice, @flat1_int, @flat1_bool, @dstAt_eq, @extrV_zero, @extrV_one, @extrV_two, @letG_undef, @tabOk_nil, @tabOk_cons, @rdOk_eq, @rdW_some, @trH_some, @trH_none, @binW_rem, @binW_quo, @flat1_agg, @flat_agg, @flat1_nil, @flat_nilFunc, @scalar_int, @scalar_bool, @scalar_nil, @isC0_ptr, @noTuple_int, @noTuple_bool, @noTuple_nil, @noTuple_agg⟩
end Go.Ds
