/-
  Ds: a deterministic semantics of the model's code, of our own: text order, growable rows, no tape. The definitions alone.
-/
import Derived.RangeFuncLeaves
import Derived.OrdersIn
import Derived.Laws.Tables
import Derived.Laws.MakeOwn
set_option linter.unusedVariables false
set_option linter.unusedSimpArgs false
namespace Go.Ds
noncomputable section

/-- One-cell values without an address. -/
def scalar : Value → Bool
  | .bool _ | .int _ _ | .string _ | .nilFunc | .nilIface => true
  | .pointer none | .map none => true
  | .slice none n c => n == 0 && c == 0
  | _ => false

def scalars (l : List Value) : Bool := l.all scalar

/-- Values without an address, that are no tuple. -/
def flat1 : Value → Bool
  | .agg cs => scalars cs.toList
  | v => scalar v

/-- Values without an address. -/
def flat : Value → Bool
  | .tuple vs => vs.toList.all flat1
  | v => flat1 v

/-- One-cell values. -/
def oneCell : Value → Bool
  | .agg _ | .tuple _ => false
  | _ => true

def forceN {α : Type} (n : Nat) (K : Nat → α) : α :=
  match n with
  | 0 => K 0
  | m + 1 => K (m + 1)

def forceI {α : Type} (n : Int) (K : Int → α) : α :=
  match n with
  | .ofNat m => forceN m fun m => K (.ofNat m)
  | .negSucc m => forceN m fun m => K (.negSucc m)

def forceB {α : Type} (b : Bool) (K : Bool → α) : α :=
  match b with
  | true => K true
  | false => K false

def forceO {α : Type} (n : Option Nat) (K : Option Nat → α) : α :=
  match n with
  | none => K none
  | some n => forceN n fun n => K (some n)

def forceA {α : Type} (a : Option Addr) (K : Option Addr → α) : α :=
  match a with
  | none => K none
  | some ⟨b, o, s⟩ => forceN b fun b => forceN o fun o => forceO s fun s => K (some ⟨b, o, s⟩)

/-- The value is laid out (its parts too, if it is one cell), then handed on. -/
def force1 {α : Type} (v : Value) (K : Value → α) : α :=
  match v with
  | .int k n => forceI n fun n => K (.int k n)
  | .bool b => forceB b fun b => K (.bool b)
  | .pointer a => forceA a fun a => K (.pointer a)
  | .slice a n c => forceA a fun a => forceN n fun n => forceN c fun c => K (.slice a n c)
  | .map r => forceO r fun r => K (.map r)
  | v => K v

def forceL {α β : Type} (f : β → (β → α) → α) (l : List β) : (List β → α) → α :=
  List.rec (motive := fun _ => (List β → α) → α) (fun K => K []) (fun v _ ih K => f v fun v => ih fun l => K (v :: l)) l

def force2 {α : Type} (v : Value) (K : Value → α) : α :=
  match v with
  | .agg ⟨cs⟩ => forceL force1 cs fun cs => K (.agg ⟨cs⟩)
  | .func fn ⟨a⟩ ⟨b⟩ => forceL force1 a fun a => forceL force1 b fun b => K (.func fn ⟨a⟩ ⟨b⟩)
  | v => force1 v K

def force {α : Type} (v : Value) (K : Value → α) : α :=
  match v with
  | .tuple ⟨cs⟩ => forceL force2 cs fun cs => K (.tuple ⟨cs⟩)
  | v => force2 v K

def forceS {α β : Type} (l : List β) (K : List β → α) : α :=
  match l with
  | [] => K []
  | b :: l => K (b :: l)

inductive Blk where
  | cells (cs : List Value) (ty : TypeId) (rw : Bool) (lo ver : Nat)
  | map (es : List MapEntry) (clock ver : Nat)
  | loop (r : Loop)
  deriving Inhabited

/-- A table by numbers, in words that the kernel reckons quickly. -/
inductive Tr where
  | e
  | n (b : Option Blk) (l r : Tr)

def trGet (t : Tr) : Nat → Option Blk :=
  Tr.rec (motive := fun _ => Nat → Option Blk) (fun _ => none)
    (fun b _ _ ihl ihr k => Nat.rec (motive := fun _ => Option Blk) b (fun k _ => Bool.rec (motive := fun _ => Option Blk) (ihr (Nat.div k 2)) (ihl (Nat.div k 2)) (Nat.beq (Nat.mod k 2) 0)) k) t

def trNew (b : Blk) (f : Nat) : Nat → Tr :=
  Nat.rec (motive := fun _ => Nat → Tr) (fun _ => .n (some b) .e .e)
    (fun _ ih k => Nat.rec (motive := fun _ => Tr) (.n (some b) .e .e) (fun k _ => Bool.rec (motive := fun _ => Tr) (.n none .e (ih (Nat.div k 2))) (.n none (ih (Nat.div k 2)) .e) (Nat.beq (Nat.mod k 2) 0)) k) f

def trSet {α : Type} (b : Blk) (t : Tr) : Nat → (Tr → α) → α :=
  Tr.rec (motive := fun _ => Nat → (Tr → α) → α) (fun k K => K (trNew b k k))
    (fun c l r ihl ihr k K => Nat.rec (motive := fun _ => α) (K (.n (some b) l r))
      (fun k _ => Bool.rec (motive := fun _ => α) (ihr (Nat.div k 2) fun r => K (.n c l r)) (ihl (Nat.div k 2) fun l => K (.n c l r)) (Nat.beq (Nat.mod k 2) 0)) k) t

structure Heap where
  length : Nat
  tr : Tr

def Heap.nil : Heap := ⟨0, .e⟩
def Heap.cons (H : Heap) (b : Blk) : Heap := trSet b H.tr H.length fun t => ⟨Nat.succ H.length, t⟩

def forceH {α : Type} (H : Heap) (K : Heap → α) : α := Heap.rec (motive := fun _ => α) (fun n t => forceN n fun n => K ⟨n, t⟩) H

def Blk.ver : Blk → Nat
  | .cells _ _ _ _ v => v
  | .map _ _ v => v
  | .loop _ => 0

def hget (H : Heap) (A : Nat) : Option Blk :=
  match Nat.blt A H.length with
  | true => trGet H.tr A
  | false => none

/-- A list with an item replaced, handed on. -/
def setK {α β : Type} (x : α) (l : List α) : Nat → (List α → β) → β :=
  List.rec (motive := fun _ => Nat → (List α → β) → β) (fun _ K => K []) (fun v t ih n K => Nat.rec (motive := fun _ => β) (K (x :: t)) (fun m _ => ih m fun t => K (v :: t)) n) l

def setL {α : Type} (l : List α) (k : Nat) (x : α) : List α := setK x l k fun l => l

def appK {α β : Type} (m : List α) (l : List α) : (List α → β) → β :=
  List.rec (motive := fun _ => (List α → β) → β) (fun K => K m) (fun v _ ih K => ih fun t => K (v :: t)) l

def appL {α : Type} (l m : List α) : List α := appK m l fun l => l

/-- The youngest block of a heap, and the heap's head, are laid out. -/
def forceBlk {α : Type} (b : Blk) (K : Blk → α) : α :=
  match b with
  | .cells cs ty rw lo ver => forceL force2 cs fun cs => forceB rw fun rw => forceN lo fun lo => forceN ver fun ver => K (.cells cs ty rw lo ver)
  | .map es c v => K (.map es c v)
  | .loop r => K (.loop r)

def hset (H : Heap) (A : Nat) (b : Blk) : Heap :=
  match Nat.blt A H.length with
  | true => forceBlk b fun b => trSet b H.tr A fun t => ⟨H.length, t⟩
  | false => H

def verAt (H : Heap) (A : Nat) : Nat := ((hget H A).map Blk.ver).getD 0

/-- The block that a value leads to. -/
def blkOf : Value → Option Nat
  | .pointer (some a) => some a.block
  | .map (some r) => some r
  | _ => none

def get (l : List Value) (t : Tmp) : Value :=
  List.rec (motive := fun _ => Nat → Value) (fun _ => undef) (fun v _ ih n => Nat.rec (motive := fun _ => Value) v (fun m _ => ih m) n) l t

def put (l : List Value) (d : Option Tmp) (v : Value) : List Value := match d with | some k => setL l k v | none => l

def ev (l : List Value) : Operand → Value
  | .tmp t => get l t
  | .const v => v
  | .global g => .pointer (some ⟨g, 0, none⟩)
  | .func f => .func (.func f) #[] #[]

/-- A computation that asks nothing of memory, of the tape or of the outside. -/
def pureRun {α : Type} (P : Program) : Sem α → Option α
  | .pure a => some a
  | .program k => pureRun P (k P)
  | _ => none

def sizeP (P : Program) (t : TypeId) : Option Nat := (P.info? t).map (·.size)

def bytesP (P : Program) (t : TypeId) : Option Nat := (P.info? t).map (·.bytes)

def aggP (P : Program) (t : TypeId) : Option Bool :=
  match P.underlying t with
  | some (.struct _) | some (.array _ _) => some true
  | some _ => some false
  | none => none

def zeroP (P : Program) (t : TypeId) : Option Value := (P.info? t).bind (·.zero)

def guard' (b : Bool) : Option Unit := if b then some () else none

def setMany : List Value → Nat → List Value → List Value
  | cs, _, [] => cs
  | cs, i, v :: vs => setMany (setL cs i v) (i + 1) vs

/-- n cells from place i on, seen from extent e. -/
def cellsAt (H : Heap) (A i e n : Nat) : Option (List Value) :=
  match hget H A with
  | some (.cells cs _ _ lo _) => if lo ≤ e && e ≤ cs.length && i + n ≤ e then some ((cs.drop i).take n) else none
  | _ => none

def loadD (P : Program) (H : Heap) (t : TypeId) (v : Value) : Option Value :=
  match v with
  | .pointer (some ⟨A, i, some e⟩) =>
    match aggP P t with
    | some true => (sizeP P t).bind fun n => (cellsAt H A i e n).map fun l => .agg l.toArray
    | some false => (cellsAt H A i e 1).bind fun l => l[0]?
    | none => none
  | _ => none

def storeD (P : Program) (H : Heap) (t : TypeId) (p v : Value) : Option Heap :=
  match p with
  | .pointer (some ⟨A, i, some e⟩) =>
    match hget H A with
    | some (.cells cs ty true lo ver) =>
      let vs := v.cells.toList
      if sizeP P t = some vs.length ∧ vs.all oneCell = true ∧ e = cs.length ∧ i + vs.length ≤ e ∧ lo ≤ e then
        some (hset H A (.cells (setMany cs i vs) ty true cs.length (ver + 1)))
      else none
    | _ => none
  | _ => none

/-- A new row. -/
def rowD (H : Heap) (ty : TypeId) (cs : List Value) : Heap := forceBlk (.cells cs ty true cs.length 0) fun b => H.cons b

def newD (P : Program) (H : Heap) (t : TypeId) (v : Value) : Option (Value × Heap) :=
  let cs := v.cells.toList
  if cs.all oneCell && sizeP P t == some cs.length then some (.pointer (some ⟨H.length, 0, some cs.length⟩), rowD H t cs) else none

/-- The largest number of bytes that we let a row take. -/
def roomD : Nat := 2 ^ 44

def sliceElem (P : Program) (t : TypeId) : Option TypeId :=
  match P.underlying t with
  | some (.slice e) => some e
  | _ => none

/-- What is appended: how many elements, and their cells. -/
def srcNew (H : Heap) (size : Nat) (x : Value) : Option (Nat × List Value) :=
  match x with
  | .slice none _ _ => some (0, [])
  | .slice (some ⟨A, i, some e⟩) n _ => (cellsAt H A i e (n * size)).map fun l => (n, l)
  | .string b => if size == 1 then some (b.size, b.data.toList.map fun c => .int .u8 c.toNat) else none
  | _ => none

def appendD (P : Program) (H : Heap) (sType : TypeId) (s x : Value) : Option (Value × Heap) :=
  (sliceElem P sType).bind fun elem => (sizeP P elem).bind fun size => (bytesP P elem).bind fun bytes => (zeroP P elem).bind fun z =>
  (srcNew H size x).bind fun (n, l) =>
  match s with
  | .slice none k c =>
    if k == 0 && c == 0 && size != 0 && n * (bytes + 1) ≤ roomD && z.cells.size == size then
      if n == 0 then some (s, H) else some (.slice (some ⟨H.length, 0, some l.length⟩) n size, rowD H elem l)
    else none
  | .slice (some ⟨A, i, some e⟩) k _ =>
    match hget H A with
    | some (.cells cs ty true lo ver) =>
      if size != 0 && (k + n) * (bytes + 1) ≤ roomD && z.cells.size == size && sizeP P ty == some size && i + k * size == e && e == cs.length && lo ≤ e then
        some (.slice (some ⟨A, i, some (e + l.length)⟩) (k + n) size, hset H A (.cells (appL cs l) ty true lo ver))
      else none
    | _ => none
  | _ => none

def srcD (H : Heap) (size n : Nat) (x : Value) : Option (List Value) :=
  match x with
  | .slice none _ _ => if n == 0 then some [] else none
  | .slice (some ⟨A, i, some e⟩) k _ => if n ≤ k then cellsAt H A i e (n * size) else none
  | .string b => if size == 1 && n ≤ b.size then some ((b.data.toList.take n).map fun c => .int .u8 c.toNat) else none
  | _ => none

def lenNat : Value → Option Nat
  | .slice _ n _ => some n
  | .string s => some s.size
  | _ => none

def copyD (P : Program) (H : Heap) (dType : TypeId) (d x : Value) : Option (Value × Heap) :=
  (sliceElem P dType).bind fun elem => (sizeP P elem).bind fun size => (lenNat x).bind fun m =>
  match d with
  | .slice none k _ => if k == 0 then some (goInt 0, H) else none
  | .slice (some ⟨A, i, some e⟩) k _ =>
    let n := Nat.min m k
    if n == 0 then some (goInt 0, H) else
    (srcD H size n x).bind fun l =>
    match hget H A with
    | some (.cells cs ty true lo ver) =>
      if e == cs.length && i + l.length ≤ e && lo ≤ e then some (goInt n, hset H A (.cells (setMany cs i l) ty true cs.length (ver + 1))) else none
    | _ => none
  | _ => none

def natOf : Value → Option Nat
  | .int _ n => if 0 ≤ n then some n.toNat else none
  | _ => none

def sliceD (P : Program) (t : TypeId) (x : Value) (lo hi : Option Value) : Option Value :=
  (sliceElem P t).bind fun elem => (sizeP P elem).bind fun size =>
  match x with
  | .slice (some ⟨A, i, some e⟩) n c =>
    (match hi with | some h => natOf h | none => some n).bind fun h =>
    (match lo with | some l => natOf l | none => some 0).bind fun l =>
    if l ≤ h && h ≤ n && c == size then some (.slice (some ⟨A, i + l * size, some e⟩) (h - l) size) else none
  | _ => none

def fieldD (P : Program) (s : TypeId) (f : Nat) : Option Field :=
  match P.underlying s with
  | some (.struct fs) => fs[f]?
  | _ => none

def lenD (H : Heap) (x : Value) : Option Value :=
  match x with
  | .slice _ n _ => some (goInt n)
  | .string s => some (goInt s.size)
  | .map (some r) => match hget H r with | some (.map es _ _) => some (goInt es.length) | _ => none
  | .map none => some (goInt 0)
  | _ => none

def notInt : TypeDesc → Bool | .int _ => false | _ => true

def isSlice : TypeDesc → Bool | .slice _ => true | _ => false

/-- What is asked of an operation's operands in every case: no package variable, constants without addresses. -/
def operandOk : Operand → Bool
  | .tmp _ => true
  | .const v => flat v
  | .global _ => false
  | .func _ => true

/-! Integers, in words that the kernel reckons quickly. -/
def addI : Int → Int → Int
  | .ofNat a, .ofNat b => .ofNat (a + b)
  | a, b => a + b

def subI : Int → Int → Int
  | .ofNat a, .ofNat b => match Nat.ble b a with
    | true => .ofNat (a - b)
    | false => .negSucc (b - a - 1)
  | a, b => a - b

def ltI : Int → Int → Bool
  | .ofNat a, .ofNat b => Nat.blt a b
  | .ofNat _, .negSucc _ => false
  | .negSucc _, .ofNat _ => true
  | .negSucc a, .negSucc b => Nat.blt b a

def eqI : Int → Int → Bool
  | .ofNat a, .ofNat b => Nat.beq a b
  | .negSucc a, .negSucc b => Nat.beq a b
  | _, _ => false

/-- An int that needs no wrapping, or wrapped. -/
def wrapI (k : IntKind) (n : Int) : Int :=
  match k with
  | .i64 => match n with
    | .ofNat m => match Nat.blt m 9223372036854775808 with
      | true => .ofNat m
      | false => k.wrap n
    | n => match ltI n (-9223372036854775808) with
      | true => k.wrap n
      | false => n
  | .u64 => match n with
    | .ofNat m => match Nat.blt m 18446744073709551616 with
      | true => .ofNat m
      | false => k.wrap n
    | n => k.wrap n
  | k => k.wrap n

def binI (op : BinOp) (k : IntKind) (a b : Int) : Option Value :=
  match op with
  | .add => some (.int k (wrapI k (addI a b)))
  | .sub => some (.int k (wrapI k (subI a b)))
  | .mul => some (.int k (wrapI k (a * b)))
  | .quo => match eqI b 0 with | true => none | false => some (.int k (wrapI k (a.tdiv b)))
  | .rem => match eqI b 0 with | true => none | false => some (.int k (a.tmod b))
  | .eql => some (.bool (eqI a b))
  | .neq => some (.bool (!eqI a b))
  | .lss => some (.bool (ltI a b))
  | .leq => some (.bool (!ltI b a))
  | .gtr => some (.bool (ltI b a))
  | .geq => some (.bool (!ltI a b))
  | _ => none

/-- An operation on values without addresses, that asks nothing of memory: the model's own word. -/
def plainD (P : Program) (o : Oper) (l : List Value) (H : Heap) : Option (Value × Heap) :=
  if o.op.operands.toList.all (fun x => flat (ev l x)) then
    match pureRun P (execOp (ev l) o) with
    | some (.value v) => if flat v then some (v, H) else none
    | _ => none
  else none

/-- Values that a function value may have captured. -/
def isC0 : Value → Bool
  | .func _ _ _ | .agg _ | .tuple _ | .iface _ _ => false
  | _ => true

/-- The operations that call nothing. -/
def opD (P : Program) (o : Oper) (l : List Value) (H : Heap) : Option (Value × Heap) :=
  let ρ := ev l
  let keep (v : Option Value) : Option (Value × Heap) := v.map fun v => (v, H)
  let plain : Option (Value × Heap) := plainD P o l H
  match o.op with
  | .move x | .assign x => some (ρ x, H)
  | .pick c a b => match ρ c with | .bool t => some (if t then ρ a else ρ b, H) | _ => none
  | .alloc t => (zeroP P t).bind fun z => if flat1 z then newD P H t z else none
  | .box t x => newD P H t (ρ x)
  | .build t parts =>
    let ps := parts.toList.map fun (i, x) => (i, ρ x)
    if (zeroP P t).any flat1 && ps.all (fun x => x.2.cells.toList.all oneCell) then
      (P.built t ps).map fun cs => (.agg cs, H)
    else none
  | .buildSlice t len parts =>
    (sliceElem P t).bind fun elem => (sizeP P elem).bind fun size => (zeroP P elem).bind fun z =>
    let ps := parts.toList.map fun (i, x) => (i, ρ x)
    if flat1 z && ps.all (fun x => x.2.cells.toList.all oneCell) && len * size ≤ 2 ^ 24 && len * size != 0 && z.cells.size == size then
      (Instr.fill (fun i => some (i * size, size)) ((Array.range (len * size)).map (z.cells[· % z.cells.size]!)) ps).map fun cs =>
        (.slice (some ⟨H.length, 0, some cs.toList.length⟩) len size, rowD H elem cs.toList)
    else none
  | .makeSlice t n c =>
    (sliceElem P t).bind fun elem => (sizeP P elem).bind fun size => (bytesP P elem).bind fun bytes => (zeroP P elem).bind fun z =>
    match ρ n, ρ c with
    | .int .i64 a, .int .i64 b =>
      if flat1 z && a == b && 0 ≤ a && a * (bytes + 1) ≤ (roomD : Int) && size != 0 && z.cells.size == size then
        let cs := if size = 1 then List.replicate a.toNat (z.cells[0]!) else (madeCells z.cells (a.toNat * size)).toList
        some (.slice (some ⟨H.length, 0, some cs.length⟩) a.toNat size, rowD H elem cs)
      else none
    | _, _ => none
  | .load t a => keep (loadD P H t (ρ a))
  | .store t a x => (storeD P H t (ρ a) (ρ x)).map fun H => (undef, H)
  | .nilCheck x => match ρ x with
    | .pointer (some a) => some (.pointer (some a), H)
    | .func (.func f) a b => some (.func (.func f) a b, H)
    | _ => none
  | .fieldAddr s x f => match ρ x with
    | .pointer (some ⟨A, i, some e⟩) => (fieldD P s f).bind fun fd => (sizeP P fd.type).bind fun n => if n == 0 then none else some (.pointer (some ⟨A, i + fd.offset, some e⟩), H)
    | _ => none
  | .indexAddr t x ix => match P.underlying t, ρ x, ρ ix with
    | some (.slice elem), .slice (some ⟨A, i, some e⟩) n _, .int _ j => (sizeP P elem).bind fun size =>
      if 0 ≤ j && j < n then some (.pointer (some ⟨A, i + j.toNat * size, some e⟩), H) else none
    | some (.array n elem), .pointer (some ⟨A, i, some e⟩), .int _ j => (sizeP P elem).bind fun size =>
      if 0 ≤ j && j < n then some (.pointer (some ⟨A, i + j.toNat * size, some e⟩), H) else none
    | _, _, _ => none
  | .slice t x lo hi none => if flat (ρ x) then plain else keep (sliceD P t (ρ x) (lo.map ρ) (hi.map ρ))
  | .field t x f => if flat (ρ x) then plain else
    match ρ x with
    | .agg cs => (fieldD P t f).bind fun fd => match aggP P fd.type with
      | some true => (sizeP P fd.type).map fun n => (.agg (cs.extract fd.offset (fd.offset + n)), H)
      | some false => (cs[fd.offset]?).map fun v => (v, H)
      | none => none
    | _ => none
  | .extract t i => match ρ t with
    | .tuple vs => (vs[i]?).map fun v => (v, H)
    | _ => none
  | .makeFunc fn first captured => match fn with
    | .func f => if (first ++ captured).toList.all (fun x => isC0 (ρ x)) then some (.func (.func f) (first.map ρ) (captured.map ρ), H) else none
    | _ => none
  | .binOp op t x y _ => match op, ρ x, ρ y with
    | .eql, .slice (some _) _ _, .slice none 0 0 => if ((P.underlying t).map isSlice) == some true then some (.bool false, H) else none
    | .neq, .slice (some _) _ _, .slice none 0 0 => if ((P.underlying t).map isSlice) == some true then some (.bool true, H) else none
    | op, .int k a, .int k' b => if k = k' then (match binI op k a b with | some v => some (v, H) | none => plain) else plain
    | _, _, _ => plain
  | .call c => match c.callee with
    | .builtin .len => if c.args.size == 1 && c.argTypes.size == 1 then
        match (P.underlying (c.argTypes.getD 0 0)), ρ (c.args.getD 0 (.tmp 0)) with
        | some (.slice _), .slice a n k => keep (lenD H (.slice a n k))
        | some .string, .string s => keep (lenD H (.string s))
        | some (.map _ _), .map r => keep (lenD H (.map r))
        | _, _ => none
      else none
    | .builtin .append => if c.args.size == 2 && c.argTypes.size == 2 && ((P.underlying (c.argTypes.getD 1 0)).map notInt) == some true then
        appendD P H (c.argTypes.getD 0 0) (ρ (c.args.getD 0 (.tmp 0))) (ρ (c.args.getD 1 (.tmp 0)))
      else none
    | .builtin .copy => if c.args.size == 2 && c.argTypes.size == 2 then copyD P H (c.argTypes.getD 0 0) (ρ (c.args.getD 0 (.tmp 0))) (ρ (c.args.getD 1 (.tmp 0))) else none
    | .builtin .max => plain
    | .builtin .min => plain
    | _ => none
  | .unOp op _ x => match op, ρ x with
    | .not, .bool b => some (.bool (!b), H)
    | _, _ => plain
  | .convert _ _ _ => plain
  | .index _ _ _ => plain
  | .makeInterface _ _ => plain
  | _ => none

inductive Ex where
  | normal
  | exit (id : Nat)
  | ret
  deriving DecidableEq

/-- What a call gives. -/
abbrev Run := Code → List Value → Heap → Option (Ex × List Value × Heap)

def resultD (P : Program) (l : List Value) (H : Heap) : ResultVar → Option Value
  | .tmp t => some (get l t)
  | .cell a t => loadD P H t (get l a)

def resultsL (P : Program) (l : List Value) (H : Heap) : List ResultVar → Option (List Value)
  | [] => some []
  | r :: rs => (resultD P l H r).bind fun v => (resultsL P l H rs).map fun vs => v :: vs

/-- Values that are no tuple. -/
def noTuple : Value → Bool
  | .tuple _ => false
  | _ => true

def resultsD (P : Program) (fn : Func) (l : List Value) (H : Heap) : Option Value :=
  (resultsL P l H fn.results.toList).bind fun vs => match vs with
  | [v] => some v
  | vs => if vs.all noTuple then some (.tuple vs.toArray) else none

def callF (P : Program) (ex : Run) (f : FuncId) (args : List Value) (H : Heap) : Option (Value × Heap) :=
  match P.funcs[f]? with
  | some fn => match fn.body with
    | some c => if fn.name == "runtime.NumGoroutine" then none else
      match ex c (args ++ List.replicate (fn.ntmps - args.length) undef) H with
      | some (.normal, l, H1) => (resultsD P fn l H1).map fun v => (v, H1)
      | some (.ret, l, H1) => (resultsD P fn l H1).map fun v => (v, H1)
      | _ => none
    | none => none
  | none => none

/-- One round of a range over a function. -/
def roundD (ex : Run) (L : Nat) (args : List Value) (H : Heap) : Option (Value × Heap) :=
  match hget H L with
  | some (.loop r) =>
    if r.params.size = args.length ∧ r.state = .ready then
      match ex r.assign ((r.params.toList.zip args).foldl (fun t (p, v) => t.set p v) r.tmps.toList) H with
      | some (.normal, l1, H1) => match hget H1 L with
        | some (.loop r1) =>
          if r1.state = .ready then
            match ex r.body l1 (hset H1 L (.loop { r1 with state := .busy })) with
            | some (e, _, H2) => match hget H2 L with
              | some (.loop r2) =>
                let jump : Option Code := match e with | .normal => none | .ret => some .ret | .exit id => some (.exit id)
                some (.bool jump.isNone, hset H2 L (.loop { r2 with state := if jump.isNone then .ready else .done, pending := jump }))
              | _ => none
            | none => none
          else none
        | _ => none
      | _ => none
    else none
  | _ => none

def callV (P : Program) (ex : Run) (f : Value) (args : List Value) (H : Heap) : Option (Value × Heap) :=
  match f with
  | .func (.func k) first captured => callF P ex k (first.toList ++ args ++ captured.toList) H
  | .func (.yield L) _ _ => roundD ex L args H
  | _ => none

/-- The one call of a range over a function. -/
def enterD (P : Program) (ex : Run) (g : Value) (L : Nat) (H : Heap) : Option (Value × Heap) :=
  match g with
  | .func (.func k) first captured => callF P ex k (first.toList ++ [Value.func (.yield L) #[] #[]] ++ captured.toList) H
  | _ => none

def stepD (P : Program) (ex : Run) (o : Oper) (l : List Value) (H : Heap) : Option (Value × Heap) :=
  if o.op.operands.toList.all operandOk then
    match o.op with
    | .call c => match c.callee with
      | .value f => callV P ex (ev l f) (c.args.toList.map (ev l)) H
      | _ => opD P o l H
    | _ => opD P o l H
  else none

def yieldedD (ops : Array Oper) (l : List Value) (j : Nat) : Option Bool :=
  match (ops[j]?).bind (·.dst) with
  | some d => match l[d]? with
    | some (.bool b) => some b
    | _ => none
  | none => none

/-- The operations of a region, in the order of a list. -/
def opsD (P : Program) (ex : Run) (ops : Array Oper) : List Nat → List Value → Heap → Option (List Value × Heap)
  | [], l, H => some (l, H)
  | i :: rest, l, H =>
    match ops[i]? with
    | none => none
    | some o =>
      if Region.wanted o (yieldedD ops l) then
        match stepD P ex o l H with
        | some (v, H1) => force v fun v => forceS (put l o.dst v) fun l => forceH H1 fun H1 => opsD P ex ops rest l H1
        | none => none
      else forceS (put l o.dst undef) fun l => opsD P ex ops rest l H

/-! ### Regions that draw their order -/

/-- The states of a region's run in text order: what there is ahead of each operation, and what it gives. -/
def opsT (P : Program) (ex : Run) (ops : Array Oper) : List Nat → List Value → Heap → Option (List (List Value × Heap × Value) × List Value × Heap)
  | [], l, H => some ([], l, H)
  | i :: rest, l, H =>
    match ops[i]? with
    | none => none
    | some o =>
      if Region.wanted o (yieldedD ops l) then
        match stepD P ex o l H with
        | some (v, H1) => force v fun v => forceS (put l o.dst v) fun l1 => forceH H1 fun H1 => (opsT P ex ops rest l1 H1).map fun (t, r) => ((l, H, v) :: t, r)
        | none => none
      else forceS (put l o.dst undef) fun l1 => (opsT P ex ops rest l1 H).map fun (t, r) => ((l, H, undef) :: t, r)

/-- The operations that write, make memory or call. -/
def isMain : Op → Bool
  | .store .. | .box .. | .buildSlice .. | .makeSlice .. | .makeMap .. | .mapUpdate .. | .insert .. => true
  | .call c => match c.callee with | .builtin .len | .builtin .max | .builtin .min => false | _ => true
  | _ => false

def isAlloc : Op → Bool
  | .alloc _ => true
  | _ => false

/-- The operations that read memory. -/
def isRead : Op → Bool
  | .load .. | .lookup .. => true
  | .call c => match c.callee with | .builtin .len => true | _ => false
  | _ => false

/-- What comes ahead of each operation, by the edges, and by theirs. -/
def befs : List Nat → List Oper → List Nat
  | acc, [] => acc
  | acc, o :: r => befs (acc ++ [o.after.toList.foldl (fun m e => if Region.binds .any e then (m ||| 2 ^ e.on) ||| acc.getD e.on 0 else m) 0]) r

def pairOk (ops : Array Oper) (b : List Nat) (i j : Nat) (x y : Oper) : Bool :=
  let bj := (b.getD j 0).testBit i
  (match x.dst with
    | some d => (!(y.looksAt ops).contains d || bj) && y.dst != some d && (!isAlloc x.op || isMain y.op || !(y.looksAt ops).contains d)
    | none => true) &&
  (match y.dst with
    | some d => !(x.looksAt ops).contains d || bj
    | none => true) &&
  (!(isMain x.op || isAlloc x.op) || !isMain y.op || bj)

def orderOk (ops : Array Oper) : Bool :=
  let b := befs [] ops.toList
  let l := ops.toList.zipIdx
  l.all fun (y, j) => y.after.toList.all (fun e => !Region.binds .any e || decide (e.on < j)) && (!isAlloc y.op || y.guard.isNone) && l.all fun (x, i) => !decide (i < j) || pairOk ops b i j x y

def mainsOf (ops : Array Oper) : List Nat := ops.toList.zipIdx.filterMap fun (y, j) => if isMain y.op then some j else none
def effectsOf (ops : Array Oper) : List Nat := ops.toList.zipIdx.filterMap fun (y, j) => if isMain y.op || isAlloc y.op then some j else none

/-- Where an operation that reads may come: with which of the text's heaps. -/
def readsOf (ops : Array Oper) : List (Nat × Nat) :=
  let b := befs [] ops.toList
  let mains := mainsOf ops
  let es := effectsOf ops
  ops.toList.zipIdx.flatMap fun (x, i) => if isRead x.op then
    ((0 :: mains.map (· + 1)).filter fun m => mains.all (fun k => (!(b.getD i 0).testBit k || decide (k < m)) && (!(b.getD k 0).testBit i || decide (m ≤ k))) &&
      es.any fun k => decide (min m i ≤ k) && decide (k < max m i)).map fun m => (i, m) else []

def drawTab (ops : Array Oper) : Option (List (Nat × Nat)) := if orderOk ops then some (readsOf ops) else none

/-- One value, if both are of one cell. -/
def veq1 : Value → Value → Bool
  | .bool x, .bool y => x == y
  | .int k x, .int k' y => decide (k = k') && decide (x = y)
  | .string x, .string y => decide (x.data.toList = y.data.toList)
  | .pointer x, .pointer y => decide (x = y)
  | .slice x n c, .slice y n' c' => decide (x = y) && Nat.beq n n' && Nat.beq c c'
  | .map x, .map y => decide (x = y)
  | .nilFunc, .nilFunc => true
  | .nilIface, .nilIface => true
  | _, _ => false

def veqL : List Value → List Value → Bool
  | [], [] => true
  | a :: l, b :: m => veq1 a b && veqL l m
  | _, _ => false

def veq : Value → Value → Bool
  | .agg a, .agg b => veqL a.toList b.toList
  | a, b => veq1 a b

def readD (P : Program) (ops : Array Oper) (tr : List (List Value × Heap × Value)) (H1 : Heap) (x : Nat × Nat) : Bool :=
  match ops[x.1]?, tr[x.1]? with
  | some o, some (l, _, v) => !Region.wanted o (yieldedD ops l) || match opD P o l (match tr[x.2]? with | some y => y.2.1 | none => H1) with
    | some (v', _) => veq v' v
    | none => false
  | _, _ => false

def exD (P : Program) : Nat → Run
  | 0, _, _, _ => none
  | n + 1, c, l, H =>
    match c with
    | .skip => some (.normal, l, H)
    | .label _ => some (.normal, l, H)
    | .region _ ops false => (opsD P (exD P n) ops (List.range ops.size) l H).map fun (l, H) => (.normal, l, H)
    | .region _ ops true => match drawTab ops with
      | some t => match opsT P (exD P n) ops (List.range ops.size) l H with
        | some (tr, l1, H1) => if t.all (readD P ops tr H1) then some (.normal, l1, H1) else none
        | none => none
      | none => none
    | .seq a b => match exD P n a l H with
      | some (.normal, l1, H1) => exD P n b l1 H1
      | r => r
    | .cond c x y => match ev l c with
      | .bool t => if operandOk c then exD P n (if t then x else y) l H else none
      | _ => none
    | .block id b => match exD P n b l H with
      | some (.exit id', l1, H1) => if id' = id then some (.normal, l1, H1) else some (.exit id', l1, H1)
      | r => r
    | .loop b => match exD P n b l H with
      | some (.normal, l1, H1) => exD P n (.loop b) l1 H1
      | r => r
    | .exit id => some (.exit id, l, H)
    | .ret => some (.ret, l, H)
    | .rangeFunc g ps assign body =>
      let L := H.length
      if !operandOk g then none else
      match enterD P (exD P n) (ev l g) L (H.cons (.loop { state := .ready, pending := none, fn := 0, tmps := l.toArray, params := ps, assign, body, defers := 0 })) with
      | some (_, H2) => match hget H2 L with
        | some (.loop r) =>
          if r.state = .busy then none else
          match r.pending with
          | none => some (.normal, l, hset H2 L (.loop { r with state := .exhausted }))
          | some c => exD P n c l (hset H2 L (.loop { r with state := .exhausted }))
        | _ => none
      | none => none
    | _ => none

end
end Go.Ds
