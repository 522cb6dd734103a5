/-
  Ds: a deterministic semantics of the model's code, of our own: text order, growable rows, no tape. The definitions alone.
-/
import Derived.RangeFuncLeaves
import Derived.OrdersIn
import Derived.Laws.Tables
import Derived.Laws.MakeOwn
import Derived.Laws.Cells
import Derived.Laws.CopyRow
import Derived.Laws.Append
import Derived.Laws.AppendOwn
import Derived.Great.BuildSlice
import Derived.IntWalk
import Derived.Orders
import Derived.Laws.Cover3
import Derived.LoopNIn
import Derived.RangeFuncRecord
set_option linter.unusedVariables false
set_option linter.unusedSimpArgs false
namespace Go.Ds
noncomputable section

/-- One-cell values without an address. -/
def scalar : Value → Bool
  | .bool _ | .int _ _ | .string _ | .nilFunc | .nilIface => true
  | .pointer none | .map none => true
  | .slice none n c => n == 0 && c == 0
  | _ => false

def scalars (l : List Value) : Bool := l.all scalar

/-- Values without an address, that are no tuple. -/
def flat1 : Value → Bool
  | .agg cs => scalars cs.toList
  | v => scalar v

/-- Values without an address. -/
def flat : Value → Bool
  | .tuple vs => vs.toList.all flat1
  | v => flat1 v

/-- One-cell values. -/
def oneCell : Value → Bool
  | .agg _ | .tuple _ => false
  | _ => true

def forceN {α : Type} (n : Nat) (K : Nat → α) : α :=
  match n with
  | 0 => K 0
  | m + 1 => K (m + 1)

def forceI {α : Type} (n : Int) (K : Int → α) : α :=
  match n with
  | .ofNat m => forceN m fun m => K (.ofNat m)
  | .negSucc m => forceN m fun m => K (.negSucc m)

def forceB {α : Type} (b : Bool) (K : Bool → α) : α :=
  match b with
  | true => K true
  | false => K false

def forceO {α : Type} (n : Option Nat) (K : Option Nat → α) : α :=
  match n with
  | none => K none
  | some n => forceN n fun n => K (some n)

def forceA {α : Type} (a : Option Addr) (K : Option Addr → α) : α :=
  match a with
  | none => K none
  | some ⟨b, o, s⟩ => forceN b fun b => forceN o fun o => forceO s fun s => K (some ⟨b, o, s⟩)

/-- The value is laid out (its parts too, if it is one cell), then handed on. -/
def force1 {α : Type} (v : Value) (K : Value → α) : α :=
  match v with
  | .int k n => forceI n fun n => K (.int k n)
  | .bool b => forceB b fun b => K (.bool b)
  | .pointer a => forceA a fun a => K (.pointer a)
  | .slice a n c => forceA a fun a => forceN n fun n => forceN c fun c => K (.slice a n c)
  | .map r => forceO r fun r => K (.map r)
  | v => K v

def forceL {α β : Type} (f : β → (β → α) → α) (l : List β) : (List β → α) → α :=
  List.rec (motive := fun _ => (List β → α) → α) (fun K => K []) (fun v _ ih K => f v fun v => ih fun l => K (v :: l)) l

def force2 {α : Type} (v : Value) (K : Value → α) : α :=
  match v with
  | .agg ⟨cs⟩ => forceL force1 cs fun cs => K (.agg ⟨cs⟩)
  | .func fn ⟨a⟩ ⟨b⟩ => forceL force1 a fun a => forceL force1 b fun b => K (.func fn ⟨a⟩ ⟨b⟩)
  | v => force1 v K

def force {α : Type} (v : Value) (K : Value → α) : α :=
  match v with
  | .tuple ⟨cs⟩ => forceL force2 cs fun cs => K (.tuple ⟨cs⟩)
  | v => force2 v K

def forceS {α β : Type} (l : List β) (K : List β → α) : α :=
  match l with
  | [] => K []
  | b :: l => K (b :: l)

inductive Blk where
  | cells (cs : List Value) (ty : TypeId) (rw : Bool) (lo ver : Nat)
  | map (es : List MapEntry) (clock ver : Nat)
  | loop (r : Loop)
  deriving Inhabited

/-- A table by numbers, in words that the kernel reckons quickly. -/
inductive Tr where
  | e
  | n (b : Option Blk) (l r : Tr)

def trGet (t : Tr) : Nat → Option Blk :=
  Tr.rec (motive := fun _ => Nat → Option Blk) (fun _ => none)
    (fun b _ _ ihl ihr k => Nat.rec (motive := fun _ => Option Blk) b (fun k _ => Bool.rec (motive := fun _ => Option Blk) (ihr (Nat.div k 2)) (ihl (Nat.div k 2)) (Nat.beq (Nat.mod k 2) 0)) k) t

def trNew (b : Blk) (f : Nat) : Nat → Tr :=
  Nat.rec (motive := fun _ => Nat → Tr) (fun _ => .n (some b) .e .e)
    (fun _ ih k => Nat.rec (motive := fun _ => Tr) (.n (some b) .e .e) (fun k _ => Bool.rec (motive := fun _ => Tr) (.n none .e (ih (Nat.div k 2))) (.n none (ih (Nat.div k 2)) .e) (Nat.beq (Nat.mod k 2) 0)) k) f

def trSet {α : Type} (b : Blk) (t : Tr) : Nat → (Tr → α) → α :=
  Tr.rec (motive := fun _ => Nat → (Tr → α) → α) (fun k K => K (trNew b k k))
    (fun c l r ihl ihr k K => Nat.rec (motive := fun _ => α) (K (.n (some b) l r))
      (fun k _ => Bool.rec (motive := fun _ => α) (ihr (Nat.div k 2) fun r => K (.n c l r)) (ihl (Nat.div k 2) fun l => K (.n c l r)) (Nat.beq (Nat.mod k 2) 0)) k) t

structure Heap where
  length : Nat
  tr : Tr

def Heap.nil : Heap := ⟨0, .e⟩
def Heap.cons (H : Heap) (b : Blk) : Heap := trSet b H.tr H.length fun t => ⟨Nat.succ H.length, t⟩

def forceH {α : Type} (H : Heap) (K : Heap → α) : α := Heap.rec (motive := fun _ => α) (fun n t => forceN n fun n => K ⟨n, t⟩) H

def Blk.ver : Blk → Nat
  | .cells _ _ _ _ v => v
  | .map _ _ v => v
  | .loop _ => 0

def hget (H : Heap) (A : Nat) : Option Blk :=
  match Nat.blt A H.length with
  | true => trGet H.tr A
  | false => none

/-- A list with an item replaced, handed on. -/
def setK {α β : Type} (x : α) (l : List α) : Nat → (List α → β) → β :=
  List.rec (motive := fun _ => Nat → (List α → β) → β) (fun _ K => K []) (fun v t ih n K => Nat.rec (motive := fun _ => β) (K (x :: t)) (fun m _ => ih m fun t => K (v :: t)) n) l

def setL {α : Type} (l : List α) (k : Nat) (x : α) : List α := setK x l k fun l => l

def appK {α β : Type} (m : List α) (l : List α) : (List α → β) → β :=
  List.rec (motive := fun _ => (List α → β) → β) (fun K => K m) (fun v _ ih K => ih fun t => K (v :: t)) l

def appL {α : Type} (l m : List α) : List α := appK m l fun l => l

/-- The youngest block of a heap, and the heap's head, are laid out. -/
def forceBlk {α : Type} (b : Blk) (K : Blk → α) : α :=
  match b with
  | .cells cs ty rw lo ver => forceL force2 cs fun cs => forceB rw fun rw => forceN lo fun lo => forceN ver fun ver => K (.cells cs ty rw lo ver)
  | .map es c v => K (.map es c v)
  | .loop r => K (.loop r)

def hset (H : Heap) (A : Nat) (b : Blk) : Heap :=
  match Nat.blt A H.length with
  | true => forceBlk b fun b => trSet b H.tr A fun t => ⟨H.length, t⟩
  | false => H

def verAt (H : Heap) (A : Nat) : Nat := ((hget H A).map Blk.ver).getD 0

/-- The block that a value leads to. -/
def blkOf : Value → Option Nat
  | .pointer (some a) => some a.block
  | .map (some r) => some r
  | _ => none

def get (l : List Value) (t : Tmp) : Value :=
  List.rec (motive := fun _ => Nat → Value) (fun _ => undef) (fun v _ ih n => Nat.rec (motive := fun _ => Value) v (fun m _ => ih m) n) l t

def put (l : List Value) (d : Option Tmp) (v : Value) : List Value := match d with | some k => setL l k v | none => l

def ev (l : List Value) : Operand → Value
  | .tmp t => get l t
  | .const v => v
  | .global g => .pointer (some ⟨g, 0, none⟩)
  | .func f => .func (.func f) #[] #[]

/-- A computation that asks nothing of memory, of the tape or of the outside. -/
def pureRun {α : Type} (P : Program) : Sem α → Option α
  | .pure a => some a
  | .program k => pureRun P (k P)
  | _ => none

def sizeP (P : Program) (t : TypeId) : Option Nat := (P.info? t).map (·.size)

def bytesP (P : Program) (t : TypeId) : Option Nat := (P.info? t).map (·.bytes)

def aggP (P : Program) (t : TypeId) : Option Bool :=
  match P.underlying t with
  | some (.struct _) | some (.array _ _) => some true
  | some _ => some false
  | none => none

def zeroP (P : Program) (t : TypeId) : Option Value := (P.info? t).bind (·.zero)

def guard' (b : Bool) : Option Unit := if b then some () else none

def setMany : List Value → Nat → List Value → List Value
  | cs, _, [] => cs
  | cs, i, v :: vs => setMany (setL cs i v) (i + 1) vs

/-- n cells from place i on, seen from extent e. -/
def cellsAt (H : Heap) (A i e n : Nat) : Option (List Value) :=
  match hget H A with
  | some (.cells cs _ _ lo _) => if lo ≤ e && e ≤ cs.length && i + n ≤ e then some ((cs.drop i).take n) else none
  | _ => none

def loadD (P : Program) (H : Heap) (t : TypeId) (v : Value) : Option Value :=
  match v with
  | .pointer (some ⟨A, i, some e⟩) =>
    match aggP P t with
    | some true => (sizeP P t).bind fun n => (cellsAt H A i e n).map fun l => .agg l.toArray
    | some false => (cellsAt H A i e 1).bind fun l => l[0]?
    | none => none
  | _ => none

def storeD (P : Program) (H : Heap) (t : TypeId) (p v : Value) : Option Heap :=
  match p with
  | .pointer (some ⟨A, i, some e⟩) =>
    match hget H A with
    | some (.cells cs ty true lo ver) =>
      let vs := v.cells.toList
      if sizeP P t = some vs.length ∧ vs.all oneCell = true ∧ e = cs.length ∧ i + vs.length ≤ e ∧ lo ≤ e then
        some (hset H A (.cells (setMany cs i vs) ty true cs.length (ver + 1)))
      else none
    | _ => none
  | _ => none

/-- A new row. -/
def rowD (H : Heap) (ty : TypeId) (cs : List Value) : Heap := forceBlk (.cells cs ty true cs.length 0) fun b => H.cons b

def newD (P : Program) (H : Heap) (t : TypeId) (v : Value) : Option (Value × Heap) :=
  let cs := v.cells.toList
  if cs.all oneCell && sizeP P t == some cs.length then some (.pointer (some ⟨H.length, 0, some cs.length⟩), rowD H t cs) else none

/-- The largest number of bytes that we let a row take. -/
def roomD : Nat := 2 ^ 44

def sliceElem (P : Program) (t : TypeId) : Option TypeId :=
  match P.underlying t with
  | some (.slice e) => some e
  | _ => none

/-- What is appended: how many elements, and their cells. -/
def srcNew (H : Heap) (size : Nat) (x : Value) : Option (Nat × List Value) :=
  match x with
  | .slice none _ _ => some (0, [])
  | .slice (some ⟨A, i, some e⟩) n _ => (cellsAt H A i e (n * size)).map fun l => (n, l)
  | .string b => if size == 1 then some (b.size, b.data.toList.map fun c => .int .u8 c.toNat) else none
  | _ => none

def appendD (P : Program) (H : Heap) (sType : TypeId) (s x : Value) : Option (Value × Heap) :=
  (sliceElem P sType).bind fun elem => (sizeP P elem).bind fun size => (bytesP P elem).bind fun bytes => (zeroP P elem).bind fun z =>
  (srcNew H size x).bind fun (n, l) =>
  match s with
  | .slice none k c =>
    if k == 0 && c == 0 && size != 0 && n * (bytes + 1) ≤ roomD && z.cells.size == size then
      if n == 0 then some (s, H) else some (.slice (some ⟨H.length, 0, some l.length⟩) n size, rowD H elem l)
    else none
  | .slice (some ⟨A, i, some e⟩) k _ =>
    match hget H A with
    | some (.cells cs ty true lo ver) =>
      if size != 0 && (k + n) * (bytes + 1) ≤ roomD && z.cells.size == size && sizeP P ty == some size && i + k * size == e && e == cs.length && lo ≤ e then
        some (.slice (some ⟨A, i, some (e + l.length)⟩) (k + n) size, hset H A (.cells (appL cs l) ty true lo ver))
      else none
    | _ => none
  | _ => none

def srcD (H : Heap) (size n : Nat) (x : Value) : Option (List Value) :=
  match x with
  | .slice none _ _ => if n == 0 then some [] else none
  | .slice (some ⟨A, i, some e⟩) k _ => if n ≤ k then cellsAt H A i e (n * size) else none
  | .string b => if size == 1 && n ≤ b.size then some ((b.data.toList.take n).map fun c => .int .u8 c.toNat) else none
  | _ => none

def lenNat : Value → Option Nat
  | .slice _ n _ => some n
  | .string s => some s.size
  | _ => none

def copyD (P : Program) (H : Heap) (dType : TypeId) (d x : Value) : Option (Value × Heap) :=
  (sliceElem P dType).bind fun elem => (sizeP P elem).bind fun size => (lenNat x).bind fun m =>
  match d with
  | .slice none k _ => if k == 0 then some (goInt 0, H) else none
  | .slice (some ⟨A, i, some e⟩) k _ =>
    let n := Nat.min m k
    if n == 0 then some (goInt 0, H) else
    (srcD H size n x).bind fun l =>
    match hget H A with
    | some (.cells cs ty true lo ver) =>
      if e == cs.length && i + l.length ≤ e && lo ≤ e then some (goInt n, hset H A (.cells (setMany cs i l) ty true cs.length (ver + 1))) else none
    | _ => none
  | _ => none

/-- The cells of a slice are set to zero. -/
def clearD (P : Program) (H : Heap) (t : TypeId) (x : Value) : Option (Value × Heap) :=
  (sliceElem P t).bind fun elem => (zeroP P elem).bind fun z =>
  match x with
  | .slice none _ _ => some (.tuple #[], H)
  | .slice (some ⟨A, i, some e⟩) n _ => if n == 0 then some (.tuple #[], H) else
    let l := (Builtin.zeroCells z.cells n).toList
    match hget H A with
    | some (.cells cs ty true lo ver) =>
      if scalars l && e == cs.length && i + l.length ≤ e && lo ≤ e then some (.tuple #[], hset H A (.cells (setMany cs i l) ty true cs.length (ver + 1))) else none
    | _ => none
  | _ => none

def natOf : Value → Option Nat
  | .int _ n => if 0 ≤ n then some n.toNat else none
  | _ => none

def sliceD (P : Program) (t : TypeId) (x : Value) (lo hi : Option Value) : Option Value :=
  (sliceElem P t).bind fun elem => (sizeP P elem).bind fun size =>
  match x with
  | .slice (some ⟨A, i, some e⟩) n c =>
    (match hi with | some h => natOf h | none => some n).bind fun h =>
    (match lo with | some l => natOf l | none => some 0).bind fun l =>
    if l ≤ h && h ≤ n && c == size then some (.slice (some ⟨A, i + l * size, some e⟩) (h - l) size) else none
  | _ => none

def fieldD (P : Program) (s : TypeId) (f : Nat) : Option Field :=
  match P.underlying s with
  | some (.struct fs) => fs[f]?
  | _ => none

def lenD (H : Heap) (x : Value) : Option Value :=
  match x with
  | .slice _ n _ => some (goInt n)
  | .string s => some (goInt s.size)
  | .map (some r) => match hget H r with | some (.map es _ _) => some (goInt es.length) | _ => none
  | .map none => some (goInt 0)
  | _ => none

def notInt : TypeDesc → Bool | .int _ => false | _ => true

def isSlice : TypeDesc → Bool | .slice _ => true | _ => false

/-- What is asked of an operation's operands in every case: no package variable, constants without addresses. -/
def operandOk : Operand → Bool
  | .tmp _ => true
  | .const v => flat v
  | .global _ => false
  | .func _ => true

/-! Integers, in words that the kernel reckons quickly. -/
def addI : Int → Int → Int
  | .ofNat a, .ofNat b => .ofNat (a + b)
  | a, b => a + b

def subI : Int → Int → Int
  | .ofNat a, .ofNat b => match Nat.ble b a with
    | true => .ofNat (a - b)
    | false => .negSucc (b - a - 1)
  | a, b => a - b

def ltI : Int → Int → Bool
  | .ofNat a, .ofNat b => Nat.blt a b
  | .ofNat _, .negSucc _ => false
  | .negSucc _, .ofNat _ => true
  | .negSucc a, .negSucc b => Nat.blt b a

def eqI : Int → Int → Bool
  | .ofNat a, .ofNat b => Nat.beq a b
  | .negSucc a, .negSucc b => Nat.beq a b
  | _, _ => false

/-- An int that needs no wrapping, or wrapped. -/
def wrapI (k : IntKind) (n : Int) : Int :=
  match k with
  | .i64 => match n with
    | .ofNat m => match Nat.blt m 9223372036854775808 with
      | true => .ofNat m
      | false => k.wrap n
    | n => match ltI n (-9223372036854775808) with
      | true => k.wrap n
      | false => n
  | .u64 => match n with
    | .ofNat m => match Nat.blt m 18446744073709551616 with
      | true => .ofNat m
      | false => k.wrap n
    | n => k.wrap n
  | k => k.wrap n

def binI (op : BinOp) (k : IntKind) (a b : Int) : Option Value :=
  match op with
  | .add => some (.int k (wrapI k (addI a b)))
  | .sub => some (.int k (wrapI k (subI a b)))
  | .mul => some (.int k (wrapI k (a * b)))
  | .quo => match eqI b 0 with | true => none | false => some (.int k (wrapI k (a.tdiv b)))
  | .rem => match eqI b 0 with | true => none | false => some (.int k (a.tmod b))
  | .eql => some (.bool (eqI a b))
  | .neq => some (.bool (!eqI a b))
  | .lss => some (.bool (ltI a b))
  | .leq => some (.bool (!ltI b a))
  | .gtr => some (.bool (ltI b a))
  | .geq => some (.bool (!ltI a b))
  | _ => none

/-- An operation on values without addresses, that asks nothing of memory: the model's own word. -/
def plainD (P : Program) (o : Oper) (l : List Value) (H : Heap) : Option (Value × Heap) :=
  if o.op.operands.toList.all (fun x => flat (ev l x)) then
    match pureRun P (execOp (ev l) o) with
    | some (.value v) => if flat v then some (v, H) else none
    | _ => none
  else none

/-- Values that a function value may have captured. -/
def isC0 : Value → Bool
  | .func _ _ _ | .agg _ | .tuple _ | .iface _ _ => false
  | _ => true

/-- The operations that call nothing. -/
def opD (P : Program) (o : Oper) (l : List Value) (H : Heap) : Option (Value × Heap) :=
  let ρ := ev l
  let keep (v : Option Value) : Option (Value × Heap) := v.map fun v => (v, H)
  let plain : Option (Value × Heap) := plainD P o l H
  match o.op with
  | .move x | .assign x => some (ρ x, H)
  | .pick c a b => match ρ c with | .bool t => some (if t then ρ a else ρ b, H) | _ => none
  | .alloc t => (zeroP P t).bind fun z => if flat1 z then newD P H t z else none
  | .box t x => newD P H t (ρ x)
  | .build t parts =>
    let ps := parts.toList.map fun (i, x) => (i, ρ x)
    if (zeroP P t).any flat1 && ps.all (fun x => x.2.cells.toList.all oneCell) then
      (P.built t ps).map fun cs => (.agg cs, H)
    else none
  | .buildSlice t len parts =>
    (sliceElem P t).bind fun elem => (sizeP P elem).bind fun size => (zeroP P elem).bind fun z =>
    let ps := parts.toList.map fun (i, x) => (i, ρ x)
    if flat1 z && ps.all (fun x => x.2.cells.toList.all oneCell) && len * size ≤ 2 ^ 24 && len * size != 0 && z.cells.size == size then
      (Instr.fill (fun i => some (i * size, size)) ((Array.range (len * size)).map (z.cells[· % z.cells.size]!)) ps).map fun cs =>
        (.slice (some ⟨H.length, 0, some cs.toList.length⟩) len size, rowD H elem cs.toList)
    else none
  | .makeSlice t n c =>
    (sliceElem P t).bind fun elem => (sizeP P elem).bind fun size => (bytesP P elem).bind fun bytes => (zeroP P elem).bind fun z =>
    match ρ n, ρ c with
    | .int .i64 a, .int .i64 b =>
      if flat1 z && a == b && 0 ≤ a && a * (bytes + 1) ≤ (roomD : Int) && size != 0 && z.cells.size == size then
        let cs := if size = 1 then List.replicate a.toNat (z.cells[0]!) else (madeCells z.cells (a.toNat * size)).toList
        some (.slice (some ⟨H.length, 0, some cs.length⟩) a.toNat size, rowD H elem cs)
      else none
    | _, _ => none
  | .load t a => keep (loadD P H t (ρ a))
  | .store t a x => (storeD P H t (ρ a) (ρ x)).map fun H => (undef, H)
  | .nilCheck x => match ρ x with
    | .pointer (some a) => some (.pointer (some a), H)
    | .func (.func f) a b => some (.func (.func f) a b, H)
    | _ => none
  | .fieldAddr s x f => match ρ x with
    | .pointer (some ⟨A, i, some e⟩) => (fieldD P s f).bind fun fd => (sizeP P fd.type).bind fun n => if n == 0 then none else some (.pointer (some ⟨A, i + fd.offset, some e⟩), H)
    | _ => none
  | .indexAddr t x ix => match P.underlying t, ρ x, ρ ix with
    | some (.slice elem), .slice (some ⟨A, i, some e⟩) n _, .int _ j => (sizeP P elem).bind fun size =>
      if 0 ≤ j && j < n then some (.pointer (some ⟨A, i + j.toNat * size, some e⟩), H) else none
    | some (.array n elem), .pointer (some ⟨A, i, some e⟩), .int _ j => (sizeP P elem).bind fun size =>
      if 0 ≤ j && j < n then some (.pointer (some ⟨A, i + j.toNat * size, some e⟩), H) else none
    | _, _, _ => none
  | .slice t x lo hi none => if flat (ρ x) then plain else keep (sliceD P t (ρ x) (lo.map ρ) (hi.map ρ))
  | .field t x f => if flat (ρ x) then plain else
    match ρ x with
    | .agg cs => (fieldD P t f).bind fun fd => match aggP P fd.type with
      | some true => (sizeP P fd.type).map fun n => (.agg (cs.extract fd.offset (fd.offset + n)), H)
      | some false => (cs[fd.offset]?).map fun v => (v, H)
      | none => none
    | _ => none
  | .extract t i => match ρ t with
    | .tuple vs => (vs[i]?).map fun v => (v, H)
    | _ => none
  | .makeFunc fn first captured => match fn with
    | .func f => if (first ++ captured).toList.all (fun x => isC0 (ρ x)) then some (.func (.func f) (first.map ρ) (captured.map ρ), H) else none
    | _ => none
  | .binOp op t x y _ => match op, ρ x, ρ y with
    | .eql, .slice (some _) _ _, .slice none 0 0 => if ((P.underlying t).map isSlice) == some true then some (.bool false, H) else none
    | .neq, .slice (some _) _ _, .slice none 0 0 => if ((P.underlying t).map isSlice) == some true then some (.bool true, H) else none
    | op, .int k a, .int k' b => if k = k' then (match binI op k a b with | some v => some (v, H) | none => plain) else plain
    | _, _, _ => plain
  | .call c => match c.callee with
    | .builtin .len => if c.args.size == 1 && c.argTypes.size == 1 then
        match (P.underlying (c.argTypes.getD 0 0)), ρ (c.args.getD 0 (.tmp 0)) with
        | some (.slice _), .slice a n k => keep (lenD H (.slice a n k))
        | some .string, .string s => keep (lenD H (.string s))
        | some (.map _ _), .map r => keep (lenD H (.map r))
        | _, _ => none
      else none
    | .builtin .append => if c.args.size == 2 && c.argTypes.size == 2 && ((P.underlying (c.argTypes.getD 1 0)).map notInt) == some true then
        appendD P H (c.argTypes.getD 0 0) (ρ (c.args.getD 0 (.tmp 0))) (ρ (c.args.getD 1 (.tmp 0)))
      else none
    | .builtin .copy => if c.args.size == 2 && c.argTypes.size == 2 then copyD P H (c.argTypes.getD 0 0) (ρ (c.args.getD 0 (.tmp 0))) (ρ (c.args.getD 1 (.tmp 0))) else none
    | .builtin .clear => if c.args.size == 1 && c.argTypes.size == 1 then clearD P H (c.argTypes.getD 0 0) (ρ (c.args.getD 0 (.tmp 0))) else none
    | .builtin .max => plain
    | .builtin .min => plain
    | _ => none
  | .unOp op _ x => match op, ρ x with
    | .not, .bool b => some (.bool (!b), H)
    | _, _ => plain
  | .convert _ _ _ => plain
  | .index _ _ _ => plain
  | .makeInterface _ _ => plain
  | _ => none

inductive Ex where
  | normal
  | exit (id : Nat)
  | ret
  deriving DecidableEq

/-- What a call gives. -/
abbrev Run := Code → List Value → Heap → Option (Ex × List Value × Heap)

def resultD (P : Program) (l : List Value) (H : Heap) : ResultVar → Option Value
  | .tmp t => some (get l t)
  | .cell a t => loadD P H t (get l a)

def resultsL (P : Program) (l : List Value) (H : Heap) : List ResultVar → Option (List Value)
  | [] => some []
  | r :: rs => (resultD P l H r).bind fun v => (resultsL P l H rs).map fun vs => v :: vs

/-- Values that are no tuple. -/
def noTuple : Value → Bool
  | .tuple _ => false
  | _ => true

def resultsD (P : Program) (fn : Func) (l : List Value) (H : Heap) : Option Value :=
  (resultsL P l H fn.results.toList).bind fun vs => match vs with
  | [v] => some v
  | vs => if vs.all noTuple then some (.tuple vs.toArray) else none

def callF (P : Program) (ex : Run) (f : FuncId) (args : List Value) (H : Heap) : Option (Value × Heap) :=
  match P.funcs[f]? with
  | some fn => match fn.body with
    | some c => if fn.name == "runtime.NumGoroutine" then none else
      match ex c (args ++ List.replicate (fn.ntmps - args.length) undef) H with
      | some (.normal, l, H1) => (resultsD P fn l H1).map fun v => (v, H1)
      | some (.ret, l, H1) => (resultsD P fn l H1).map fun v => (v, H1)
      | _ => none
    | none => none
  | none => none

/-- One round of a range over a function. -/
def roundD (ex : Run) (L : Nat) (args : List Value) (H : Heap) : Option (Value × Heap) :=
  match hget H L with
  | some (.loop r) =>
    if r.params.size = args.length ∧ r.state = .ready then
      match ex r.assign ((r.params.toList.zip args).foldl (fun t (p, v) => t.set p v) r.tmps.toList) H with
      | some (.normal, l1, H1) => match hget H1 L with
        | some (.loop r1) =>
          if r1.state = .ready then
            match ex r.body l1 (hset H1 L (.loop { r1 with state := .busy })) with
            | some (e, _, H2) => match hget H2 L with
              | some (.loop r2) =>
                let jump : Option Code := match e with | .normal => none | .ret => some .ret | .exit id => some (.exit id)
                some (.bool jump.isNone, hset H2 L (.loop { r2 with state := if jump.isNone then .ready else .done, pending := jump }))
              | _ => none
            | none => none
          else none
        | _ => none
      | _ => none
    else none
  | _ => none

def callV (P : Program) (ex : Run) (f : Value) (args : List Value) (H : Heap) : Option (Value × Heap) :=
  match f with
  | .func (.func k) first captured => callF P ex k (first.toList ++ args ++ captured.toList) H
  | .func (.yield L) _ _ => roundD ex L args H
  | _ => none

/-- The one call of a range over a function. -/
def enterD (P : Program) (ex : Run) (g : Value) (L : Nat) (H : Heap) : Option (Value × Heap) :=
  match g with
  | .func (.func k) first captured => callF P ex k (first.toList ++ [Value.func (.yield L) #[] #[]] ++ captured.toList) H
  | _ => none

def stepD (P : Program) (ex : Run) (o : Oper) (l : List Value) (H : Heap) : Option (Value × Heap) :=
  if o.op.operands.toList.all operandOk then
    match o.op with
    | .call c => match c.callee with
      | .value f => callV P ex (ev l f) (c.args.toList.map (ev l)) H
      | _ => opD P o l H
    | _ => opD P o l H
  else none

def yieldedD (ops : Array Oper) (l : List Value) (j : Nat) : Option Bool :=
  match (ops[j]?).bind (·.dst) with
  | some d => match l[d]? with
    | some (.bool b) => some b
    | _ => none
  | none => none

/-- The operations of a region, in the order of a list. -/
def opsD (P : Program) (ex : Run) (ops : Array Oper) : List Nat → List Value → Heap → Option (List Value × Heap)
  | [], l, H => some (l, H)
  | i :: rest, l, H =>
    match ops[i]? with
    | none => none
    | some o =>
      if Region.wanted o (yieldedD ops l) then
        match stepD P ex o l H with
        | some (v, H1) => force v fun v => forceS (put l o.dst v) fun l => forceH H1 fun H1 => opsD P ex ops rest l H1
        | none => none
      else forceS (put l o.dst undef) fun l => opsD P ex ops rest l H

/-! ### Regions that draw their order -/

/-- The states of a region's run in text order: what there is ahead of each operation, and what it gives. -/
def opsT (P : Program) (ex : Run) (ops : Array Oper) : List Nat → List Value → Heap → Option (List (List Value × Heap × Value) × List Value × Heap)
  | [], l, H => some ([], l, H)
  | i :: rest, l, H =>
    match ops[i]? with
    | none => none
    | some o =>
      if Region.wanted o (yieldedD ops l) then
        match stepD P ex o l H with
        | some (v, H1) => force v fun v => forceS (put l o.dst v) fun l1 => forceH H1 fun H1 => (opsT P ex ops rest l1 H1).map fun (t, r) => ((l, H, v) :: t, r)
        | none => none
      else forceS (put l o.dst undef) fun l1 => (opsT P ex ops rest l1 H).map fun (t, r) => ((l, H, undef) :: t, r)

/-- The operations that write, make memory or call. -/
def isMain : Op → Bool
  | .store .. | .box .. | .buildSlice .. | .makeSlice .. | .makeMap .. | .mapUpdate .. | .insert .. => true
  | .call c => match c.callee with | .builtin .len | .builtin .max | .builtin .min => false | _ => true
  | _ => false

def isAlloc : Op → Bool
  | .alloc _ => true
  | _ => false

/-- The operations that read memory. -/
def isRead : Op → Bool
  | .load .. | .lookup .. => true
  | .call c => match c.callee with | .builtin .len => true | _ => false
  | _ => false

/-- What comes ahead of each operation, by the edges, and by theirs. -/
def befs : List Nat → List Oper → List Nat
  | acc, [] => acc
  | acc, o :: r => befs (acc ++ [o.after.toList.foldl (fun m e => if Region.binds .any e then (m ||| 2 ^ e.on) ||| acc.getD e.on 0 else m) 0]) r

def pairOk (ops : Array Oper) (b : List Nat) (i j : Nat) (x y : Oper) : Bool :=
  let bj := (b.getD j 0).testBit i
  (match x.dst with
    | some d => (!(y.looksAt ops).contains d || bj) && y.dst != some d && (!isAlloc x.op || isMain y.op || !(y.looksAt ops).contains d)
    | none => true) &&
  (match y.dst with
    | some d => !(x.looksAt ops).contains d || bj
    | none => true) &&
  (!(isMain x.op || isAlloc x.op) || !isMain y.op || bj)

def orderOk (ops : Array Oper) : Bool :=
  let b := befs [] ops.toList
  let l := ops.toList.zipIdx
  l.all fun (y, j) => y.after.toList.all (fun e => !Region.binds .any e || decide (e.on < j)) && (!isAlloc y.op || y.guard.isNone) && l.all fun (x, i) => !decide (i < j) || pairOk ops b i j x y

def mainsOf (ops : Array Oper) : List Nat := ops.toList.zipIdx.filterMap fun (y, j) => if isMain y.op then some j else none
def effectsOf (ops : Array Oper) : List Nat := ops.toList.zipIdx.filterMap fun (y, j) => if isMain y.op || isAlloc y.op then some j else none

/-- Where an operation that reads may come: with which of the text's heaps. -/
def readsOf (ops : Array Oper) : List (Nat × Nat) :=
  let b := befs [] ops.toList
  let mains := mainsOf ops
  let es := effectsOf ops
  ops.toList.zipIdx.flatMap fun (x, i) => if isRead x.op then
    ((0 :: mains.map (· + 1)).filter fun m => mains.all (fun k => (!(b.getD i 0).testBit k || decide (k < m)) && (!(b.getD k 0).testBit i || decide (m ≤ k))) &&
      es.any fun k => decide (min m i ≤ k) && decide (k < max m i)).map fun m => (i, m) else []

def drawTab (ops : Array Oper) : Option (List (Nat × Nat)) := if orderOk ops then some (readsOf ops) else none

/-- One value, if both are of one cell. -/
def veq1 : Value → Value → Bool
  | .bool x, .bool y => x == y
  | .int k x, .int k' y => decide (k = k') && decide (x = y)
  | .string x, .string y => decide (x.data.toList = y.data.toList)
  | .pointer x, .pointer y => decide (x = y)
  | .slice x n c, .slice y n' c' => decide (x = y) && Nat.beq n n' && Nat.beq c c'
  | .map x, .map y => decide (x = y)
  | .nilFunc, .nilFunc => true
  | .nilIface, .nilIface => true
  | _, _ => false

def veqL : List Value → List Value → Bool
  | [], [] => true
  | a :: l, b :: m => veq1 a b && veqL l m
  | _, _ => false

def veq : Value → Value → Bool
  | .agg a, .agg b => veqL a.toList b.toList
  | a, b => veq1 a b

def readD (P : Program) (ops : Array Oper) (tr : List (List Value × Heap × Value)) (H1 : Heap) (x : Nat × Nat) : Bool :=
  match ops[x.1]?, tr[x.1]? with
  | some o, some (l, _, v) => !Region.wanted o (yieldedD ops l) || match opD P o l (match tr[x.2]? with | some y => y.2.1 | none => H1) with
    | some (v', _) => veq v' v
    | none => false
  | _, _ => false

def exD (P : Program) : Nat → Run
  | 0, _, _, _ => none
  | n + 1, c, l, H =>
    match c with
    | .skip => some (.normal, l, H)
    | .label _ => some (.normal, l, H)
    | .region _ ops false => (opsD P (exD P n) ops (List.range ops.size) l H).map fun (l, H) => (.normal, l, H)
    | .region _ ops true => match drawTab ops with
      | some t => match opsT P (exD P n) ops (List.range ops.size) l H with
        | some (tr, l1, H1) => if t.all (readD P ops tr H1) then some (.normal, l1, H1) else none
        | none => none
      | none => none
    | .seq a b => match exD P n a l H with
      | some (.normal, l1, H1) => exD P n b l1 H1
      | r => r
    | .cond c x y => match ev l c with
      | .bool t => if operandOk c then exD P n (if t then x else y) l H else none
      | _ => none
    | .block id b => match exD P n b l H with
      | some (.exit id', l1, H1) => if id' = id then some (.normal, l1, H1) else some (.exit id', l1, H1)
      | r => r
    | .loop b => match exD P n b l H with
      | some (.normal, l1, H1) => exD P n (.loop b) l1 H1
      | r => r
    | .exit id => some (.exit id, l, H)
    | .ret => some (.ret, l, H)
    | .rangeFunc g ps assign body =>
      let L := H.length
      if !operandOk g then none else
      match enterD P (exD P n) (ev l g) L (H.cons (.loop { state := .ready, pending := none, fn := 0, tmps := l.toArray, params := ps, assign, body, defers := 0 })) with
      | some (_, H2) => match hget H2 L with
        | some (.loop r) =>
          if r.state = .busy then none else
          match r.pending with
          | none => some (.normal, l, hset H2 L (.loop { r with state := .exhausted }))
          | some c => exD P n c l (hset H2 L (.loop { r with state := .exhausted }))
        | _ => none
      | none => none
    | _ => none

end
end Go.Ds
/-
  Ds against the model: how values, heaps and worlds correspond.
-/
namespace Go.Ds

/-- Where an abstract row lies, seen from one extent: cell i is the cell i + d of block b, which has sz cells; k cells make an element. -/
structure Place where
  b : Nat
  d : Int
  sz : Nat
  k : Nat

def Place.at (p : Place) (i : Nat) : Nat := ((i : Int) + p.d).toNat

abbrev Rho := Nat → Nat → Option Place

def Rho.Le (ρ ρ' : Rho) : Prop := ∀ A e p, ρ A e = some p → ρ' A e = some p

theorem Rho.Le.refl (ρ : Rho) : ρ.Le ρ := fun _ _ _ h => h
theorem Rho.Le.trans {a b c : Rho} (h : a.Le b) (k : b.Le c) : a.Le c := fun _ _ _ e => k _ _ _ (h _ _ _ e)

def All2 {α β : Type} (R : α → β → Prop) : List α → List β → Prop
  | [], [] => True
  | a :: l, b :: m => R a b ∧ All2 R l m
  | _, _ => False

theorem All2.mono {α β : Type} {R S : α → β → Prop} (h : ∀ a b, R a b → S a b) : ∀ {l : List α} {m : List β}, All2 R l m → All2 S l m
  | [], [], _ => trivial
  | _ :: _, _ :: _, ⟨a, b⟩ => ⟨h _ _ a, b.mono h⟩
  | [], _ :: _, h => h.elim
  | _ :: _, [], h => h.elim

theorem All2.length {α β : Type} {R : α → β → Prop} : ∀ {l : List α} {m : List β}, All2 R l m → l.length = m.length
  | [], [], _ => rfl
  | _ :: _, _ :: _, ⟨_, b⟩ => by simp [b.length]
  | [], _ :: _, h => h.elim
  | _ :: _, [], h => h.elim

theorem All2.get {α β : Type} {R : α → β → Prop} : ∀ {l : List α} {m : List β}, All2 R l m → ∀ (i : Nat) (a : α), l[i]? = some a → ∃ b, m[i]? = some b ∧ R a b
  | [], [], _, i, a, h => by simp at h
  | x :: _, y :: _, ⟨r, _⟩, 0, a, h => by simp at h; subst h; exact ⟨y, by simp, r⟩
  | _ :: l, _ :: m, ⟨_, s⟩, i + 1, a, h => by simpa using s.get i a (by simpa using h)
  | [], _ :: _, h, _, _, _ => h.elim
  | _ :: _, [], h, _, _, _ => h.elim

theorem All2.of_get {α β : Type} {R : α → β → Prop} : ∀ {l : List α} {m : List β}, l.length = m.length → (∀ (i : Nat) (a : α), l[i]? = some a → ∃ b, m[i]? = some b ∧ R a b) → All2 R l m
  | [], [], _, _ => trivial
  | x :: l, y :: m, e, h => ⟨by obtain ⟨b, hb, r⟩ := h 0 x (by simp); simp at hb; subst hb; exact r,
      All2.of_get (by simpa using e) (fun i a hi => by simpa using h (i + 1) a (by simpa using hi))⟩
  | [], _ :: _, e, _ => by simp at e
  | _ :: _, [], e, _ => by simp at e

theorem All2.append {α β : Type} {R : α → β → Prop} : ∀ {l : List α} {m : List β} {l' : List α} {m' : List β}, All2 R l m → All2 R l' m' → All2 R (l ++ l') (m ++ m')
  | [], [], _, _, _, k => k
  | _ :: _, _ :: _, _, _, ⟨a, b⟩, k => ⟨a, b.append k⟩
  | [], _ :: _, _, _, h, _ => h.elim
  | _ :: _, [], _, _, h, _ => h.elim

theorem All2.same {α : Type} {R : α → α → Prop} : ∀ {l : List α}, (∀ a ∈ l, R a a) → All2 R l l
  | [], _ => trivial
  | a :: _, h => ⟨h a (by simp), All2.same fun b hb => h b (by simp [hb])⟩

theorem All2.map {α β γ δ : Type} {R : γ → δ → Prop} (f : α → γ) (g : β → δ) : ∀ {l : List α} {m : List β}, All2 (fun a b => R (f a) (g b)) l m → All2 R (l.map f) (m.map g)
  | [], [], _ => trivial
  | _ :: _, _ :: _, ⟨a, b⟩ => ⟨a, b.map f g⟩
  | [], _ :: _, h => h.elim
  | _ :: _, [], h => h.elim

theorem All2.set {α β : Type} {R : α → β → Prop} {a : α} {b : β} (r : R a b) : ∀ {l : List α} {m : List β} (k : Nat), All2 R l m → All2 R (l.set k a) (m.set k b)
  | [], [], _, _ => trivial
  | _ :: _, _ :: _, 0, ⟨_, s⟩ => ⟨r, s⟩
  | _ :: _, _ :: _, k + 1, ⟨q, s⟩ => ⟨q, s.set r k⟩
  | [], _ :: _, _, h => h.elim
  | _ :: _, [], _, h => h.elim

/-- Values of one cell that hold no function. -/
inductive C0 (ρ : Rho) : Value → Value → Prop
  | flat {v : Value} (h : scalar v = true) : C0 ρ v v
  | ptr {A i e : Nat} {p : Place} (h : ρ A e = some p) (h0 : 0 ≤ (i : Int) + p.d) : C0 ρ (.pointer (some ⟨A, i, some e⟩)) (.pointer (some ⟨p.b, p.at i, none⟩))
  | slice {A i e n c' : Nat} {p : Place} {a : Addr} (h : ρ A e = some p) (h0 : 0 ≤ (i : Int) + p.d) (hn : i + n * p.k ≤ e) (hc : n ≤ c') (hs : (a = ⟨p.b, p.at i, none⟩ ∧ p.at i + c' * p.k ≤ p.sz) ∨ (n = 0 ∧ c' = 0)) :
      C0 ρ (.slice (some ⟨A, i, some e⟩) n p.k) (.slice (some a) n c')
  | map {A : Nat} {p : Place} (h : ρ A 0 = some p) : C0 ρ (.map (some A)) (.map (some p.b))

/-- Values of one cell. -/
inductive C1 (ρ : Rho) : Value → Value → Prop
  | c0 {v v' : Value} (h : C0 ρ v v') : C1 ρ v v'
  | fn {f : FuncId} {a b a' b' : Array Value} (ha : All2 (C0 ρ) a.toList a'.toList) (hb : All2 (C0 ρ) b.toList b'.toList) : C1 ρ (.func (.func f) a b) (.func (.func f) a' b')
  | yld {L : Nat} {p : Place} (h : ρ L 0 = some p) : C1 ρ (.func (.yield L) #[] #[]) (.func (.yield p.b) #[] #[])

inductive V1 (ρ : Rho) : Value → Value → Prop
  | c1 {v v' : Value} (h : C1 ρ v v') : V1 ρ v v'
  | agg {a a' : Array Value} (h : All2 (C1 ρ) a.toList a'.toList) : V1 ρ (.agg a) (.agg a')

inductive V (ρ : Rho) : Value → Value → Prop
  | v1 {v v' : Value} (h : V1 ρ v v') : V ρ v v'
  | tuple {a a' : Array Value} (h : All2 (V1 ρ) a.toList a'.toList) : V ρ (.tuple a) (.tuple a')

section
variable {ρ ρ' : Rho}
theorem C0.mono (hl : ρ.Le ρ') {v v' : Value} (h : C0 ρ v v') : C0 ρ' v v' := by
  cases h with
  | flat h => exact .flat h
  | ptr h h0 => exact .ptr (hl _ _ _ h) h0
  | slice h h0 hn hc hs => exact .slice (hl _ _ _ h) h0 hn hc hs
  | map h => exact .map (hl _ _ _ h)

theorem C1.mono (hl : ρ.Le ρ') {v v' : Value} (h : C1 ρ v v') : C1 ρ' v v' := by
  cases h with
  | c0 h => exact .c0 (h.mono hl)
  | fn ha hb => exact .fn (ha.mono fun _ _ h => h.mono hl) (hb.mono fun _ _ h => h.mono hl)
  | yld h => exact .yld (hl _ _ _ h)

theorem V1.mono (hl : ρ.Le ρ') {v v' : Value} (h : V1 ρ v v') : V1 ρ' v v' := by
  cases h with
  | c1 h => exact .c1 (h.mono hl)
  | agg h => exact .agg (h.mono fun _ _ h => h.mono hl)

theorem V.mono (hl : ρ.Le ρ') {v v' : Value} (h : V ρ v v') : V ρ' v v' := by
  cases h with
  | v1 h => exact .v1 (h.mono hl)
  | tuple h => exact .tuple (h.mono fun _ _ h => h.mono hl)
end

/-! ### Values without an address correspond to themselves alone -/
theorem C0.eq_of_scalar {ρ : Rho} {v v' : Value} (h : C0 ρ v v') (hs : scalar v = true) : v' = v := by
  cases h with
  | flat _ => rfl
  | ptr _ _ => simp [scalar] at hs
  | slice _ _ _ _ _ => simp [scalar] at hs
  | map _ => simp [scalar] at hs

theorem C1.eq_of_scalar {ρ : Rho} {v v' : Value} (h : C1 ρ v v') (hs : scalar v = true) : v' = v := by
  cases h with
  | c0 h => exact h.eq_of_scalar hs
  | fn _ _ => simp [scalar] at hs
  | yld _ => simp [scalar] at hs

theorem All2.eq_of_scalars {ρ : Rho} : ∀ {l m : List Value}, All2 (C1 ρ) l m → scalars l = true → m = l
  | [], [], _, _ => rfl
  | a :: l, b :: m, ⟨r, s⟩, h => by
    simp only [scalars, List.all_cons, Bool.and_eq_true] at h
    rw [r.eq_of_scalar h.1, s.eq_of_scalars (by simpa [scalars] using h.2)]
  | [], _ :: _, h, _ => h.elim
  | _ :: _, [], h, _ => h.elim

theorem V1.eq_of_flat {ρ : Rho} {v v' : Value} (h : V1 ρ v v') (hs : flat1 v = true) : v' = v := by
  cases h with
  | c1 h => cases v <;> first | exact h.eq_of_scalar hs | (cases h with | c0 h => cases h with | flat h => simp [scalar] at h)
  | agg h => have := h.eq_of_scalars hs; exact congrArg Value.agg (Array.ext' this)

theorem V.eq_of_flat {ρ : Rho} {v v' : Value} (h : V ρ v v') (hs : flat v = true) : v' = v := by
  cases h with
  | v1 h =>
    refine h.eq_of_flat ?_
    cases v <;> first | exact hs | (cases h with | c1 h => cases h with | c0 h => cases h with | flat h => simp [scalar] at h)
  | tuple h =>
    rename_i a a'
    have key : ∀ {l m : List Value}, All2 (V1 ρ) l m → l.all flat1 = true → m = l := by
      intro l
      induction l with
      | nil => intro m h _; cases m with | nil => rfl | cons => exact h.elim
      | cons x l ih =>
        intro m h hs
        cases m with
        | nil => exact h.elim
        | cons y m =>
          simp only [List.all_cons, Bool.and_eq_true] at hs
          rw [h.1.eq_of_flat hs.1, ih h.2 hs.2]
    exact congrArg Value.tuple (Array.ext' (key h hs))

theorem C1.of_scalar {ρ : Rho} {v : Value} (h : scalar v = true) : C1 ρ v v := .c0 (.flat h)

theorem All2.of_scalars {ρ : Rho} {l : List Value} (h : scalars l = true) : All2 (C1 ρ) l l :=
  All2.same fun a ha => .of_scalar (by simp only [scalars, List.all_eq_true] at h; exact h a ha)

theorem V1.of_flat {ρ : Rho} {v : Value} (hs : flat1 v = true) : V1 ρ v v := by
  cases v <;> first | exact .agg (.of_scalars hs) | exact .c1 (.of_scalar hs)

theorem V.of_flat {ρ : Rho} {v : Value} (hs : flat v = true) : V ρ v v := by
  cases v <;> first
    | exact .v1 (.agg (.of_scalars hs))
    | exact .v1 (.c1 (.of_scalar hs))
    | (refine .tuple (All2.same fun a ha => V1.of_flat ?_)
       simp only [flat, List.all_eq_true] at hs
       exact hs a ha)

theorem V.undef {ρ : Rho} : V ρ undef undef := .of_flat rfl

/-- The cells of related values. -/
theorem V.cells {ρ : Rho} {v v' : Value} (h : V ρ v v') (h1 : v.cells.toList.all oneCell = true) : All2 (C1 ρ) v.cells.toList v'.cells.toList := by
  cases h with
  | v1 h => cases h with
    | agg h => exact h
    | c1 h =>
      have : v.cells.toList = [v] ∧ v'.cells.toList = [v'] := by
        cases h with
        | c0 h => cases h with
          | flat h => cases v <;> first | exact ⟨rfl, rfl⟩ | simp [scalar] at h
          | _ => exact ⟨rfl, rfl⟩
        | _ => exact ⟨rfl, rfl⟩
      rw [this.1, this.2]
      exact ⟨h, trivial⟩
  | tuple h => simp [Value.cells, oneCell] at h1

theorem C1.oneCell {ρ : Rho} {v v' : Value} (h : C1 ρ v v') : v'.oneCell' = true := by
  cases h with
  | c0 h => cases h with
    | flat h => cases v <;> first | rfl | simp [scalar] at h
    | _ => rfl
  | _ => rfl

theorem All2.oneCells {ρ : Rho} : ∀ {l m : List Value}, All2 (C1 ρ) l m → ∀ v ∈ m, v.oneCell' = true
  | [], [], _, _, h => by simp at h
  | _ :: _, _ :: _, ⟨r, s⟩, v, h => by
    simp only [List.mem_cons] at h
    rcases h with rfl | h
    · exact r.oneCell
    · exact s.oneCells v h
  | [], _ :: _, h, _, _ => h.elim
  | _ :: _, [], h, _, _ => h.elim

/-! ### The heap's own words -/
theorem setK_eq {α β : Type} (x : α) : ∀ (l : List α) (k : Nat) (K : List α → β), setK x l k K = K (l.set k x)
  | [], _, _ => rfl
  | _ :: _, 0, _ => rfl
  | b :: t, k + 1, K => by
    show setK x t k (fun t => K (b :: t)) = _
    rw [setK_eq x t k]; rfl

theorem setL_eq {α : Type} (l : List α) (k : Nat) (x : α) : setL l k x = l.set k x := setK_eq x l k _

theorem appK_eq {α β : Type} (m : List α) : ∀ (l : List α) (K : List α → β), appK m l K = K (l ++ m)
  | [], _ => rfl
  | b :: t, K => by
    show appK m t (fun t => K (b :: t)) = _
    rw [appK_eq m t]; rfl

theorem appL_eq {α : Type} (l m : List α) : appL l m = l ++ m := appK_eq m l _

theorem get_eq : ∀ (l : List Value) (t : Tmp), get l t = l.getD t undef
  | [], _ => rfl
  | _ :: _, 0 => rfl
  | _ :: l, t + 1 => by
    show get l t = _
    rw [get_eq l t]; rfl

theorem trSet_eq {α : Type} (b : Blk) : ∀ (t : Tr) (k : Nat) (K : Tr → α), trSet b t k K = K (trSet b t k fun t => t)
  | .e, _, _ => rfl
  | .n _ _ _, 0, _ => rfl
  | .n c l r, k + 1, K => by
    cases h : Nat.beq (Nat.mod k 2) 0 with
    | true =>
      have h1 : ∀ {α : Type} (K : Tr → α), trSet b (.n c l r) (k + 1) K = trSet b l (Nat.div k 2) fun l => K (.n c l r) := fun K => by
        show Bool.rec (motive := fun _ => _) _ _ (Nat.beq (Nat.mod k 2) 0) = _
        rw [h]; rfl
      rw [h1, h1, trSet_eq b l (Nat.div k 2), trSet_eq b l (Nat.div k 2) fun l => Tr.n c l r]
    | false =>
      have h1 : ∀ {α : Type} (K : Tr → α), trSet b (.n c l r) (k + 1) K = trSet b r (Nat.div k 2) fun r => K (.n c l r) := fun K => by
        show Bool.rec (motive := fun _ => _) _ _ (Nat.beq (Nat.mod k 2) 0) = _
        rw [h]; rfl
      rw [h1, h1, trSet_eq b r (Nat.div k 2), trSet_eq b r (Nat.div k 2) fun r => Tr.n c l r]

theorem trGet_succ (c : Option Blk) (l r : Tr) (k : Nat) : trGet (.n c l r) (k + 1) = if k % 2 = 0 then trGet l (k / 2) else trGet r (k / 2) := by
  show Bool.rec (motive := fun _ => _) (trGet r (k / 2)) (trGet l (k / 2)) (Nat.beq (k % 2) 0) = _
  by_cases h : k % 2 = 0
  · rw [if_pos h, h]; rfl
  · rw [if_neg h]
    have : Nat.beq (k % 2) 0 = false := Bool.eq_false_iff.2 fun e => h (Nat.eq_of_beq_eq_true e)
    rw [this]

theorem trGet_new (b : Blk) : ∀ (f k : Nat), k ≤ f → ∀ j, trGet (trNew b f k) j = if j = k then some b else none
  | 0, k, hk, j => by
    obtain rfl : k = 0 := by omega
    cases j with
    | zero => rfl
    | succ j => show trGet (.n (some b) .e .e) (j + 1) = _; rw [trGet_succ]; simp; rfl
  | f + 1, 0, _, j => by
    cases j with
    | zero => rfl
    | succ j => show trGet (.n (some b) .e .e) (j + 1) = _; rw [trGet_succ]; simp; rfl
  | f + 1, k + 1, hk, j => by
    have ih := trGet_new b f (k / 2) (by omega)
    cases h : Nat.beq (Nat.mod k 2) 0 with
    | true =>
      have h1 : trNew b (f + 1) (k + 1) = .n none (trNew b f (k / 2)) .e := by
        show Bool.rec (motive := fun _ => Tr) _ _ (Nat.beq (Nat.mod k 2) 0) = _
        rw [h]; rfl
      have h2 : k % 2 = 0 := Nat.eq_of_beq_eq_true h
      rw [h1]
      cases j with
      | zero => simp; rfl
      | succ j =>
        rw [trGet_succ, ih]
        by_cases hj : j % 2 = 0
        · rw [if_pos hj]
          by_cases he : j / 2 = k / 2
          · rw [if_pos he, if_pos (by omega)]
          · rw [if_neg he, if_neg (by omega)]
        · rw [if_neg hj, if_neg (by omega)]; rfl
    | false =>
      have h1 : trNew b (f + 1) (k + 1) = .n none .e (trNew b f (k / 2)) := by
        show Bool.rec (motive := fun _ => Tr) _ _ (Nat.beq (Nat.mod k 2) 0) = _
        rw [h]; rfl
      have h2 : ¬ k % 2 = 0 := fun e => by
        have : Nat.beq (Nat.mod k 2) 0 = true := by show Nat.beq (k % 2) 0 = true; rw [e]; rfl
        rw [h] at this; cases this
      rw [h1]
      cases j with
      | zero => simp; rfl
      | succ j =>
        rw [trGet_succ, ih]
        by_cases hj : j % 2 = 0
        · rw [if_pos hj, if_neg (by omega)]; rfl
        · rw [if_neg hj]
          by_cases he : j / 2 = k / 2
          · rw [if_pos he, if_pos (by omega)]
          · rw [if_neg he, if_neg (by omega)]

theorem trGet_set (b : Blk) : ∀ (t : Tr) (k j : Nat), trGet (trSet b t k fun t => t) j = if j = k then some b else trGet t j
  | .e, k, j => by
    show trGet (trNew b k k) j = _
    rw [trGet_new b k k (Nat.le_refl _)]; rfl
  | .n c l r, 0, j => by
    show trGet (.n (some b) l r) j = _
    cases j with
    | zero => rfl
    | succ j => rw [trGet_succ, trGet_succ, if_neg (by omega : ¬ j + 1 = 0)]
  | .n c l r, k + 1, j => by
    cases h : Nat.beq (Nat.mod k 2) 0 with
    | true =>
      have h1 : trSet b (.n c l r) (k + 1) (fun t => t) = .n c (trSet b l (k / 2) fun t => t) r := by
        show Bool.rec (motive := fun _ => Tr) _ (trSet b l (k / 2) fun l => .n c l r) (Nat.beq (Nat.mod k 2) 0) = _
        rw [h]; exact trSet_eq b l _ _
      have h2 : k % 2 = 0 := Nat.eq_of_beq_eq_true h
      rw [h1]
      cases j with
      | zero => rw [if_neg (by omega)]; rfl
      | succ j =>
        rw [trGet_succ, trGet_succ, trGet_set b l]
        by_cases hj : j % 2 = 0
        · rw [if_pos hj, if_pos hj]
          by_cases he : j / 2 = k / 2
          · rw [if_pos he, if_pos (by omega)]
          · rw [if_neg he, if_neg (by omega)]
        · rw [if_neg hj, if_neg hj, if_neg (by omega)]
    | false =>
      have h1 : trSet b (.n c l r) (k + 1) (fun t => t) = .n c l (trSet b r (k / 2) fun t => t) := by
        show Bool.rec (motive := fun _ => Tr) (trSet b r (k / 2) fun r => .n c l r) _ (Nat.beq (Nat.mod k 2) 0) = _
        rw [h]; exact trSet_eq b r _ _
      have h2 : ¬ k % 2 = 0 := fun e => by
        have : Nat.beq (Nat.mod k 2) 0 = true := by show Nat.beq (k % 2) 0 = true; rw [e]; rfl
        rw [h] at this; cases this
      rw [h1]
      cases j with
      | zero => rw [if_neg (by omega)]; rfl
      | succ j =>
        rw [trGet_succ, trGet_succ, trGet_set b r]
        by_cases hj : j % 2 = 0
        · rw [if_pos hj, if_pos hj, if_neg (by omega)]
        · rw [if_neg hj, if_neg hj]
          by_cases he : j / 2 = k / 2
          · rw [if_pos he, if_pos (by omega)]
          · rw [if_neg he, if_neg (by omega)]

theorem forceN_eq {α : Type} (n : Nat) (K : Nat → α) : forceN n K = K n := by cases n <;> rfl
theorem forceI_eq {α : Type} (n : Int) (K : Int → α) : forceI n K = K n := by cases n <;> simp [forceI, forceN_eq]
theorem forceB_eq {α : Type} (b : Bool) (K : Bool → α) : forceB b K = K b := by cases b <;> rfl
theorem forceO_eq {α : Type} (n : Option Nat) (K : Option Nat → α) : forceO n K = K n := by cases n <;> simp [forceO, forceN_eq]
theorem forceA_eq {α : Type} (a : Option Addr) (K : Option Addr → α) : forceA a K = K a := by
  cases a with
  | none => rfl
  | some a => cases a; simp [forceA, forceN_eq, forceO_eq]
theorem force1_eq {α : Type} (v : Value) (K : Value → α) : force1 v K = K v := by
  cases v <;> simp [force1, forceI_eq, forceB_eq, forceA_eq, forceN_eq, forceO_eq]
theorem forceL_eq {α β : Type} (f : β → (β → α) → α) (hf : ∀ b K, f b K = K b) : ∀ (l : List β) (K : List β → α), forceL f l K = K l
  | [], _ => rfl
  | b :: l, K => by
    show f b (fun v => forceL f l fun l => K (v :: l)) = _
    rw [hf, forceL_eq f hf l]
theorem force2_eq {α : Type} (v : Value) (K : Value → α) : force2 v K = K v := by
  cases v with
  | agg cs => cases cs; simp [force2, forceL_eq _ force1_eq]
  | func fn a b => cases a; cases b; simp [force2, forceL_eq _ force1_eq]
  | _ => simp only [force2, force1_eq]
theorem force_eq {α : Type} (v : Value) (K : Value → α) : force v K = K v := by
  cases v with
  | tuple cs => cases cs; simp [force, forceL_eq _ force2_eq]
  | _ => simp only [force, force2_eq]
theorem forceS_eq {α β : Type} (l : List β) (K : List β → α) : forceS l K = K l := by cases l <;> rfl
theorem forceBlk_eq {α : Type} (b : Blk) (K : Blk → α) : forceBlk b K = K b := by
  cases b <;> simp [forceBlk, forceL_eq _ force2_eq, forceB_eq, forceN_eq]

theorem forceH_eq {α : Type} (H : Heap) (K : Heap → α) : forceH H K = K H := by cases H; exact forceN_eq _ fun n => K ⟨n, _⟩

theorem hget_eq (H : Heap) (A : Nat) : hget H A = if A < H.length then trGet H.tr A else none := by
  unfold hget
  by_cases h : A < H.length
  · rw [if_pos h]; have : Nat.blt A H.length = true := by simpa [Nat.blt_eq] using h
    rw [this]
  · rw [if_neg h]; have : Nat.blt A H.length = false := Bool.eq_false_iff.2 (fun e => h (by simpa [Nat.blt_eq] using e))
    rw [this]

theorem hget_lt {H : Heap} {A : Nat} {b : Blk} (h : hget H A = some b) : A < H.length := by
  rw [hget_eq] at h; split at h <;> simp_all

theorem cons_eq (H : Heap) (b : Blk) : H.cons b = ⟨H.length + 1, trSet b H.tr H.length fun t => t⟩ := trSet_eq b _ _ _

@[simp] theorem length_cons (H : Heap) (b : Blk) : (H.cons b).length = H.length + 1 := by rw [cons_eq]

theorem hget_cons_old {H : Heap} {A : Nat} (b : Blk) (h : A < H.length) : hget (H.cons b) A = hget H A := by
  rw [hget_eq, hget_eq, if_pos h, if_pos (by simp; omega), cons_eq]
  show trGet (trSet b H.tr H.length fun t => t) A = _
  rw [trGet_set, if_neg (by omega)]

theorem hget_cons_new (H : Heap) (b : Blk) : hget (H.cons b) H.length = some b := by
  rw [hget_eq, if_pos (by simp), cons_eq]
  show trGet (trSet b H.tr H.length fun t => t) H.length = _
  rw [trGet_set, if_pos rfl]

theorem hget_none {H : Heap} {A : Nat} (h : H.length ≤ A) : hget H A = none := by rw [hget_eq, if_neg (by omega)]

theorem hset_eq (H : Heap) (A : Nat) (b : Blk) : hset H A b = if A < H.length then ⟨H.length, trSet b H.tr A fun t => t⟩ else H := by
  unfold hset
  by_cases h : A < H.length
  · rw [if_pos h]; have : Nat.blt A H.length = true := by simpa [Nat.blt_eq] using h
    rw [this]; simp only [forceBlk_eq]; exact trSet_eq b _ _ _
  · rw [if_neg h]; have : Nat.blt A H.length = false := Bool.eq_false_iff.2 (fun e => h (by simpa [Nat.blt_eq] using e))
    rw [this]

theorem length_hset (H : Heap) (A : Nat) (b : Blk) : (hset H A b).length = H.length := by rw [hset_eq]; split <;> rfl

theorem hget_hset_same {H : Heap} {A : Nat} (b : Blk) (h : A < H.length) : hget (hset H A b) A = some b := by
  rw [hget_eq, length_hset, if_pos h, hset_eq, if_pos h]
  show trGet (trSet b H.tr A fun t => t) A = _
  rw [trGet_set, if_pos rfl]

theorem hget_hset_ne {H : Heap} {A B : Nat} (b : Blk) (h : A ≠ B) : hget (hset H A b) B = hget H B := by
  rw [hget_eq, hget_eq, length_hset, hset_eq]
  by_cases hB : B < H.length
  · simp only [hB, if_true]
    by_cases hA : A < H.length
    · rw [if_pos hA]
      show trGet (trSet b H.tr A fun t => t) B = _
      rw [trGet_set, if_neg (Ne.symm h)]
    · rw [if_neg hA]
  · simp [hB]

theorem trSet_self (b : Blk) : ∀ (t : Tr) (k : Nat), trGet t k = some b → (trSet b t k fun t => t) = t
  | .e, _, h => by cases h
  | .n c l r, 0, h => by
    have h : c = some b := h
    show Tr.n (some b) l r = _
    rw [h]
  | .n c l r, k + 1, h => by
    rw [trGet_succ] at h
    cases h1 : Nat.beq (Nat.mod k 2) 0 with
    | true =>
      have h2 : k % 2 = 0 := Nat.eq_of_beq_eq_true h1
      rw [if_pos h2] at h
      show Bool.rec (motive := fun _ => Tr) _ (trSet b l (k / 2) fun l => .n c l r) (Nat.beq (Nat.mod k 2) 0) = _
      rw [h1]
      show (trSet b l (k / 2) fun l => Tr.n c l r) = Tr.n c l r
      rw [trSet_eq, trSet_self b l _ h]
    | false =>
      have h2 : ¬ k % 2 = 0 := fun e => by
        have : Nat.beq (Nat.mod k 2) 0 = true := by show Nat.beq (k % 2) 0 = true; rw [e]; rfl
        rw [h1] at this; cases this
      rw [if_neg h2] at h
      show Bool.rec (motive := fun _ => Tr) (trSet b r (k / 2) fun r => .n c l r) _ (Nat.beq (Nat.mod k 2) 0) = _
      rw [h1]
      show (trSet b r (k / 2) fun r => Tr.n c l r) = Tr.n c l r
      rw [trSet_eq, trSet_self b r _ h]

theorem hset_self {H : Heap} {A : Nat} {b : Blk} (h : hget H A = some b) : hset H A b = H := by
  have hlt := hget_lt h
  rw [hset_eq, if_pos hlt]
  rw [hget_eq, if_pos hlt] at h
  rw [trSet_self b _ _ h]

theorem rowD_eq (H : Heap) (ty : TypeId) (cs : List Value) : rowD H ty cs = H.cons (.cells cs ty true cs.length 0) := by simp [rowD, forceBlk_eq]

/-! ### Heaps -/
def Blk.wr : Blk → Bool
  | .cells _ _ rw _ _ => rw
  | _ => true

def Blk.isCells : Blk → Bool
  | .cells .. => true
  | _ => false

/-- A concrete block that an abstract block that may be written stands for. -/
def Wr (ρ : Rho) (H : Heap) (b : Nat) : Prop := ∃ A e p blk, ρ A e = some p ∧ p.b = b ∧ hget H A = some blk ∧ blk.wr = true

/-- No abstract block stands for this concrete one. -/
def Off (ρ : Rho) (b : Nat) : Prop := ∀ A e p, ρ A e = some p → p.b ≠ b

structure CellsAt (P : Program) (ρ : Rho) (w : World) (cs : List Value) (ty : TypeId) (rw : Bool) (lo e : Nat) (p : Place) : Prop where
  le : e ≤ cs.length
  k : sizeP P ty = some p.k
  fits : (e : Int) + p.d ≤ p.sz
  row : ∃ cur ty' fr, w.heap[p.b]? = some (.cells cur ty' fr) ∧ cur.size = p.sz ∧ (rw = true → fr = (0, 0)) ∧
    (lo ≤ e → ∀ i c, i < e → 0 ≤ (i : Int) + p.d → cs[i]? = some c → ∃ c', cur[p.at i]? = some c' ∧ C1 ρ c c')

structure EntryRel (ρ : Rho) (a b : MapEntry) : Prop where
  key : b.key = a.key
  flat : flat a.key = true
  val : V ρ a.val b.val
  born : b.born = a.born

structure LoopRel (ρ : Rho) (a b : Loop) : Prop where
  state : b.state = a.state
  pending : b.pending = a.pending
  tmps : All2 (V ρ) a.tmps.toList b.tmps.toList
  params : b.params = a.params
  assign : b.assign = a.assign
  body : b.body = a.body

structure HRel (P : Program) (ρ : Rho) (H : Heap) (w : World) : Prop where
  dom : ∀ A e p, ρ A e = some p → A < H.length ∧ p.b < w.heap.size
  cells : ∀ A cs ty rw lo ver, hget H A = some (.cells cs ty rw lo ver) → (∃ p, ρ A cs.length = some p) ∧ ∀ e p, ρ A e = some p → CellsAt P ρ w cs ty rw lo e p
  map : ∀ A es ck ver, hget H A = some (.map es ck ver) → ∃ p es', ρ A 0 = some p ∧ w.heap[p.b]? = some (.map es' ck) ∧ All2 (EntryRel ρ) es es'.toList
  loop : ∀ A r, hget H A = some (.loop r) → ∃ p r', ρ A 0 = some p ∧ w.heap[p.b]? = some (.loop r') ∧ LoopRel ρ r r'
  one : ∀ A e p blk, ρ A e = some p → hget H A = some blk → (blk.isCells = true ∨ e = 0)
  excl : ∀ A e p A2 e2 p2 blk, ρ A e = some p → ρ A2 e2 = some p2 → p.b = p2.b → hget H A = some blk → blk.wr = true → A2 = A ∧ p2.d = p.d
  full : ∀ A, A < H.length → (hget H A).isSome = true

/-- What a piece of a run leaves. -/
structure Post (P : Program) (ρ : Rho) (H : Heap) (w : World) (ρ' : Rho) (H' : Heap) (w' : World) : Prop where
  le : ρ.Le ρ'
  rel : HRel P ρ' H' w'
  len : H.length ≤ H'.length
  size : w.heap.size ≤ w'.heap.size
  os : w'.os = w.os
  tape : w'.tape = w.tape
  output : w'.output = w.output
  frame : ∀ b, b < w.heap.size → ¬ Wr ρ H b → w'.heap[b]? = w.heap[b]? ∧ ¬ Wr ρ' H' b
  loops : ∀ (b : Nat) (r : Loop), w.heap[b]? = some (Obj.loop r) → ∃ r', w'.heap[b]? = some (Obj.loop r')
  img : ∀ b, b < w.heap.size → Off ρ b → Off ρ' b

theorem Post.refl {P : Program} {ρ : Rho} {H : Heap} {w : World} (h : HRel P ρ H w) : Post P ρ H w ρ H w :=
  ⟨.refl ρ, h, Nat.le_refl _, Nat.le_refl _, rfl, rfl, rfl, fun _ _ hw => ⟨rfl, hw⟩, fun _ r h => ⟨r, h⟩, fun _ _ h => h⟩

theorem Post.trans {P : Program} {ρ ρ' ρ'' : Rho} {H H' H'' : Heap} {w w' w'' : World} (h : Post P ρ H w ρ' H' w') (k : Post P ρ' H' w' ρ'' H'' w'') : Post P ρ H w ρ'' H'' w'' where
  le := h.le.trans k.le
  rel := k.rel
  len := Nat.le_trans h.len k.len
  size := Nat.le_trans h.size k.size
  os := k.os.trans h.os
  tape := k.tape.trans h.tape
  output := k.output.trans h.output
  frame b hb hw := by
    obtain ⟨e, hw'⟩ := h.frame b hb hw
    obtain ⟨e', hw''⟩ := k.frame b (Nat.lt_of_lt_of_le hb h.size) hw'
    exact ⟨e'.trans e, hw''⟩
  loops b r hr := by
    obtain ⟨r', hr'⟩ := h.loops b r hr
    exact k.loops b r' hr'
  img b hb hw := k.img b (Nat.lt_of_lt_of_le hb h.size) (h.img b hb hw)

theorem CellsAt.world {P : Program} {ρ ρ' : Rho} {w w' : World} {cs : List Value} {ty : TypeId} {rw : Bool} {lo e : Nat} {p : Place}
    (hl : ρ.Le ρ') (hb : w'.heap[p.b]? = w.heap[p.b]?) (h : CellsAt P ρ w cs ty rw lo e p) : CellsAt P ρ' w' cs ty rw lo e p := by
  obtain ⟨h1, h2, h3, cur, ty', fr, h4, h5, h6, h7⟩ := h
  exact ⟨h1, h2, h3, cur, ty', fr, hb.trans h4, h5, h6, fun hlo i c hi h0 hc => by
    obtain ⟨c', a, b⟩ := h7 hlo i c hi h0 hc; exact ⟨c', a, b.mono hl⟩⟩

/-- A draw of the tape turns nothing. -/
theorem HRel.heap {P : Program} {ρ : Rho} {H : Heap} {w w' : World} (h : HRel P ρ H w) (e : w'.heap = w.heap) : HRel P ρ H w' := by
  refine ⟨by rw [e]; exact h.dom, fun A cs ty rw lo ver hg => ⟨(h.cells A cs ty rw lo ver hg).1, fun f p hp => ((h.cells A cs ty rw lo ver hg).2 f p hp).world (.refl ρ) (by rw [e])⟩, by rw [e]; exact h.map, by rw [e]; exact h.loop, h.one, h.excl, h.full⟩
theorem HRel.drew {P : Program} {ρ : Rho} {H : Heap} {w : World} (h : HRel P ρ H w) : HRel P ρ H w.drew := h.heap rfl

theorem Post.drew {P : Program} {ρ : Rho} {H : Heap} {w : World} (h : HRel P ρ H w) : Post P ρ H w ρ H w.drew :=
  ⟨.refl ρ, h.drew, Nat.le_refl _, Nat.le_refl _, rfl, rfl, rfl, fun _ _ hw => ⟨rfl, hw⟩, fun _ r h => ⟨r, h⟩, fun _ _ h => h⟩

theorem EntryRel.mono {ρ ρ' : Rho} (hl : ρ.Le ρ') {a b : MapEntry} (h : EntryRel ρ a b) : EntryRel ρ' a b := ⟨h.key, h.flat, h.val.mono hl, h.born⟩
theorem LoopRel.mono {ρ ρ' : Rho} (hl : ρ.Le ρ') {a b : Loop} (h : LoopRel ρ a b) : LoopRel ρ' a b := ⟨h.state, h.pending, h.tmps.mono fun _ _ h => h.mono hl, h.params, h.assign, h.body⟩

/-- A new place for an abstract block. -/
def Rho.put (ρ : Rho) (A e : Nat) (p : Place) : Rho := fun B f => if B = A ∧ f = e then some p else ρ B f

theorem Rho.put_same (ρ : Rho) (A e : Nat) (p : Place) : ρ.put A e p A e = some p := by simp [Rho.put]
theorem Rho.put_ne {ρ : Rho} {A e B f : Nat} {p : Place} (h : ¬ (B = A ∧ f = e)) : ρ.put A e p B f = ρ B f := by simp [Rho.put, h]
theorem Rho.Le.put {ρ : Rho} {A e : Nat} {p : Place} (h : ρ A e = none) : ρ.Le (ρ.put A e p) := fun B f q hq => by
  by_cases hh : B = A ∧ f = e
  · obtain ⟨rfl, rfl⟩ := hh; rw [h] at hq; cases hq
  · rw [Rho.put_ne hh]; exact hq

theorem heap_alloc_old {w : World} {o : Obj} {b : Nat} (h : b < w.heap.size) : (w.alloc o).heap[b]? = w.heap[b]? := by
  show (w.heap.push o)[b]? = _
  rw [Array.getElem?_push, if_neg (by omega)]

theorem heap_alloc_new (w : World) (o : Obj) : (w.alloc o).heap[w.heap.size]? = some o := by
  show (w.heap.push o)[w.heap.size]? = _
  rw [Array.getElem?_push, if_pos rfl]

theorem blk_lt {w : World} {b : Nat} {o : Obj} (h : w.heap[b]? = some o) : b < w.heap.size := (Array.getElem?_eq_some_iff.1 h).1

/-- **A new block on both sides.** The abstract one is the heap's youngest; the concrete one is new too. -/
theorem Post.new {P : Program} {ρ : Rho} {H : Heap} {w : World} (h : HRel P ρ H w) (blk : Blk) (o : Obj) (e : Nat) (p : Place) (hb : p.b = w.heap.size)
    (hc : ∀ cs ty rw lo ver, blk = .cells cs ty rw lo ver → cs.length = e ∧ CellsAt P (ρ.put H.length e p) (w.alloc o) cs ty rw lo e p)
    (hm : ∀ es ck ver, blk = .map es ck ver → e = 0 ∧ ∃ es', o = .map es' ck ∧ All2 (EntryRel (ρ.put H.length e p)) es es'.toList)
    (hlp : ∀ r, blk = .loop r → e = 0 ∧ ∃ r', o = .loop r' ∧ LoopRel (ρ.put H.length e p) r r') :
    Post P ρ H w (ρ.put H.length e p) (H.cons blk) (w.alloc o) := by
  have hno : ∀ f, ρ H.length f = none := fun f => by
    cases hh : ρ H.length f with
    | none => rfl
    | some q => exact absurd (h.dom _ _ _ hh).1 (Nat.lt_irrefl _)
  have hle : ρ.Le (ρ.put H.length e p) := .put (hno e)
  have hold : ∀ A f q, (ρ.put H.length e p) A f = some q → (A = H.length ∧ f = e ∧ q = p) ∨ (A < H.length ∧ ρ A f = some q ∧ q.b < w.heap.size) := fun A f q hq => by
    by_cases hh : A = H.length ∧ f = e
    · obtain ⟨rfl, rfl⟩ := hh; rw [Rho.put_same] at hq; exact .inl ⟨rfl, rfl, (Option.some.inj hq).symm⟩
    · rw [Rho.put_ne hh] at hq; exact .inr ⟨(h.dom _ _ _ hq).1, hq, (h.dom _ _ _ hq).2⟩
  have hget_old : ∀ A, A < H.length → hget (H.cons blk) A = hget H A := fun A hA => hget_cons_old blk hA
  have hrel : HRel P (ρ.put H.length e p) (H.cons blk) (w.alloc o) := by
    refine ⟨?_, ?_, ?_, ?_, ?_, ?_, fun A hA => by
      by_cases he : A = H.length
      · subst he; rw [hget_cons_new]; rfl
      · rw [length_cons] at hA; rw [hget_old A (by omega)]; exact h.full A (by omega)⟩
    · intro A f q hq
      rcases hold A f q hq with ⟨rfl, rfl, rfl⟩ | ⟨hA, _, hqb⟩
      · exact ⟨by simp, by rw [hb]; simp⟩
      · exact ⟨by simp; omega, by simp; omega⟩
    · intro A cs ty rw lo ver hg
      have hA : A < (H.cons blk).length := hget_lt hg
      by_cases he : A = H.length
      · subst he
        rw [hget_cons_new] at hg
        obtain ⟨hlen, hcell⟩ := hc _ _ _ _ _ (Option.some.inj hg)
        refine ⟨⟨p, by rw [hlen, Rho.put_same]⟩, fun f q hq => ?_⟩
        rcases hold _ f q hq with ⟨_, rfl, rfl⟩ | ⟨hlt, _, _⟩
        · exact hcell
        · exact absurd hlt (Nat.lt_irrefl _)
      · have hA' : A < H.length := by simp at hA; omega
        rw [hget_old A hA'] at hg
        obtain ⟨⟨q, hq⟩, hall⟩ := h.cells _ _ _ _ _ _ hg
        refine ⟨⟨q, hle _ _ _ hq⟩, fun f q hq => ?_⟩
        rcases hold _ f q hq with ⟨rfl, _, _⟩ | ⟨_, hq', hqb⟩
        · exact absurd hA' (Nat.lt_irrefl _)
        · exact (hall f q hq').world hle (heap_alloc_old hqb)
    · intro A es ck ver hg
      have hA : A < (H.cons blk).length := hget_lt hg
      by_cases he : A = H.length
      · subst he
        rw [hget_cons_new] at hg
        obtain ⟨rfl, es', ho, hall⟩ := hm _ _ _ (Option.some.inj hg)
        exact ⟨p, es', Rho.put_same _ _ _ _, by rw [hb, heap_alloc_new, ho], hall⟩
      · have hA' : A < H.length := by simp at hA; omega
        rw [hget_old A hA'] at hg
        obtain ⟨q, es', hq, hw, hall⟩ := h.map _ _ _ _ hg
        exact ⟨q, es', hle _ _ _ hq, by rw [heap_alloc_old (blk_lt hw), hw], hall.mono fun _ _ x => x.mono hle⟩
    · intro A r hg
      have hA : A < (H.cons blk).length := hget_lt hg
      by_cases he : A = H.length
      · subst he
        rw [hget_cons_new] at hg
        obtain ⟨rfl, r', ho, hall⟩ := hlp _ (Option.some.inj hg)
        exact ⟨p, r', Rho.put_same _ _ _ _, by rw [hb, heap_alloc_new, ho], hall⟩
      · have hA' : A < H.length := by simp at hA; omega
        rw [hget_old A hA'] at hg
        obtain ⟨q, r', hq, hw, hall⟩ := h.loop _ _ hg
        exact ⟨q, r', hle _ _ _ hq, by rw [heap_alloc_old (blk_lt hw), hw], hall.mono hle⟩
    · intro A f q blk' hq hg
      rcases hold A f q hq with ⟨rfl, rfl, rfl⟩ | ⟨hA, hq', _⟩
      · rw [hget_cons_new] at hg
        obtain rfl := Option.some.inj hg
        cases blk with
        | cells => exact .inl rfl
        | map => exact .inr (hm _ _ _ rfl).1
        | loop => exact .inr (hlp _ rfl).1
      · rw [hget_old A hA] at hg
        exact h.one _ _ _ _ hq' hg
    · intro A f q A2 f2 q2 blk' hq hq2 hbb hg hwr
      rcases hold A f q hq with ⟨rfl, rfl, rfl⟩ | ⟨hA, hq', hqb⟩
      · rcases hold A2 f2 q2 hq2 with ⟨rfl, rfl, rfl⟩ | ⟨hA2, hq2', hqb2⟩
        · exact ⟨rfl, rfl⟩
        · omega
      · rcases hold A2 f2 q2 hq2 with ⟨rfl, rfl, rfl⟩ | ⟨hA2, hq2', hqb2⟩
        · omega
        · rw [hget_old A hA] at hg
          exact h.excl _ _ _ _ _ _ _ hq' hq2' hbb hg hwr
  refine ⟨hle, hrel, by simp, by simp, rfl, rfl, rfl, fun b hb' hw => ⟨heap_alloc_old hb', ?_⟩, fun b r hr => ⟨r, by rw [heap_alloc_old (blk_lt hr), hr]⟩, fun b hb' hw A f q hq => ?_⟩
  case refine_2 =>
    rcases hold A f q hq with ⟨rfl, rfl, rfl⟩ | ⟨hA, hq', _⟩
    · omega
    · exact hw _ _ _ hq'
  rintro ⟨A, f, q, blk', hq, rfl, hg, hwr⟩
  rcases hold A f q hq with ⟨rfl, rfl, rfl⟩ | ⟨hA, hq', _⟩
  · omega
  · rw [hget_old A hA] at hg
    exact hw ⟨A, f, q, blk', hq', rfl, hg, hwr⟩

end Go.Ds
/-
  Ds against the model: a block that is written, a row that grows.
-/
namespace Go.Ds

theorem HRel.full_hset {P : Program} {ρ : Rho} {H : Heap} {w : World} (h : HRel P ρ H w) (A : Nat) (b : Blk) : ∀ B, B < (hset H A b).length → (hget (hset H A b) B).isSome = true := fun B hB => by
  rw [length_hset] at hB
  by_cases he : A = B
  · subst he; rw [hget_hset_same _ hB]; rfl
  · rw [hget_hset_ne _ he]; exact h.full B hB

/-- **A block of ours is written.** -/
theorem Post.upd {P : Program} {ρ ρ' : Rho} {H : Heap} {w w' : World} (h : HRel P ρ H w) {A e : Nat} {blk : Blk} {p : Place} (blk' : Blk) (hg : hget H A = some blk) (hwr : blk.wr = true) (hp : ρ A e = some p)
    (hle : ρ.Le ρ') (hnew : ∀ B f q, ρ' B f = some q → ρ B f = some q ∨ (B = A ∧ q.b = p.b ∧ q.d = p.d))
    (hsz : w'.heap.size = w.heap.size) (hoth : ∀ b, b ≠ p.b → w'.heap[b]? = w.heap[b]?) (hos : w'.os = w.os) (htape : w'.tape = w.tape) (hout : w'.output = w.output)
    (hc : ∀ cs ty rw lo ver, blk' = .cells cs ty rw lo ver → (∃ q, ρ' A cs.length = some q) ∧ ∀ f q, ρ' A f = some q → CellsAt P ρ' w' cs ty rw lo f q)
    (hm : ∀ es ck ver, blk' = .map es ck ver → ∃ q es', ρ' A 0 = some q ∧ w'.heap[q.b]? = some (.map es' ck) ∧ All2 (EntryRel ρ') es es'.toList)
    (hl : ∀ r, blk' = .loop r → ∃ q r', ρ' A 0 = some q ∧ w'.heap[q.b]? = some (.loop r') ∧ LoopRel ρ' r r')
    (hone : ∀ f q, ρ' A f = some q → blk'.isCells = true ∨ f = 0)
    (hloops : ∀ r, w.heap[p.b]? = some (Obj.loop r) → ∃ r', w'.heap[p.b]? = some (Obj.loop r')) :
    Post P ρ H w ρ' (hset H A blk') w' := by
  have hA := hget_lt hg
  have hpb := (h.dom _ _ _ hp).2
  have hold : ∀ B f q, B ≠ A → ρ' B f = some q → ρ B f = some q ∧ q.b ≠ p.b := fun B f q hne hq => by
    rcases hnew B f q hq with hq' | ⟨e, _⟩
    · exact ⟨hq', fun hb => hne (h.excl _ _ _ _ _ _ _ hp hq' hb.symm hg hwr).1⟩
    · exact absurd e hne
  have hrel : HRel P ρ' (hset H A blk') w' := by
    refine ⟨?_, ?_, ?_, ?_, ?_, ?_, h.full_hset _ _⟩
    · intro B f q hq
      rw [length_hset, hsz]
      rcases hnew B f q hq with hq' | ⟨rfl, hb, _⟩
      · exact h.dom _ _ _ hq'
      · exact ⟨hA, by rw [hb]; exact hpb⟩
    · intro B cs ty rw lo ver hg'
      by_cases hB : B = A
      · subst hB
        rw [hget_hset_same _ hA] at hg'
        exact hc _ _ _ _ _ (Option.some.inj hg')
      · rw [hget_hset_ne _ (Ne.symm hB)] at hg'
        obtain ⟨⟨q, hq⟩, hall⟩ := h.cells _ _ _ _ _ _ hg'
        refine ⟨⟨q, hle _ _ _ hq⟩, fun f q hq => ?_⟩
        obtain ⟨hq', hne⟩ := hold B f q hB hq
        exact (hall f q hq').world hle (hoth _ hne)
    · intro B es ck ver hg'
      by_cases hB : B = A
      · subst hB
        rw [hget_hset_same _ hA] at hg'
        exact hm _ _ _ (Option.some.inj hg')
      · rw [hget_hset_ne _ (Ne.symm hB)] at hg'
        obtain ⟨q, es', hq, hw, hall⟩ := h.map _ _ _ _ hg'
        exact ⟨q, es', hle _ _ _ hq, by rw [hoth _ (hold B 0 q hB (hle _ _ _ hq)).2, hw], hall.mono fun _ _ x => x.mono hle⟩
    · intro B r hg'
      by_cases hB : B = A
      · subst hB
        rw [hget_hset_same _ hA] at hg'
        exact hl _ (Option.some.inj hg')
      · rw [hget_hset_ne _ (Ne.symm hB)] at hg'
        obtain ⟨q, r', hq, hw, hall⟩ := h.loop _ _ hg'
        exact ⟨q, r', hle _ _ _ hq, by rw [hoth _ (hold B 0 q hB (hle _ _ _ hq)).2, hw], hall.mono hle⟩
    · intro B f q b hq hg'
      by_cases hB : B = A
      · subst hB
        rw [hget_hset_same _ hA] at hg'
        obtain rfl := Option.some.inj hg'
        exact hone f q hq
      · rw [hget_hset_ne _ (Ne.symm hB)] at hg'
        exact h.one _ _ _ _ (hold B f q hB hq).1 hg'
    · intro B f q B2 f2 q2 b hq hq2 hbb hg' hw
      -- every place of A is at p's block and shift, where one is
      have hAd : ∀ f q, ρ' A f = some q → q.b = p.b → q.d = p.d := fun f q hq hb => by
        rcases hnew A f q hq with hq' | ⟨_, _, hd⟩
        · exact (h.excl _ _ _ _ _ _ _ hp hq' hb.symm hg hwr).2
        · exact hd
      by_cases hB : B = A
      · subst hB
        by_cases hB2 : B2 = B
        · subst hB2
          refine ⟨rfl, ?_⟩
          rcases hnew B2 f q hq with hq' | ⟨_, hb, hd⟩
          · rcases hnew B2 f2 q2 hq2 with hq2' | ⟨_, hb2, hd2⟩
            · exact (h.excl _ _ _ _ _ _ _ hq' hq2' hbb hg hwr).2
            · rw [hd2]; exact (hAd f q hq (hbb.trans hb2)).symm
          · rw [hd]; exact hAd f2 q2 hq2 (hbb ▸ hb)
        · obtain ⟨hq2', hne⟩ := hold B2 f2 q2 hB2 hq2
          rcases hnew B f q hq with hq' | ⟨_, hb, _⟩
          · exact h.excl _ _ _ _ _ _ _ hq' hq2' hbb hg hwr
          · exact absurd (hbb ▸ hb) hne
      · rw [hget_hset_ne _ (Ne.symm hB)] at hg'
        obtain ⟨hq', hne⟩ := hold B f q hB hq
        rcases hnew B2 f2 q2 hq2 with hq2' | ⟨rfl, hb2, _⟩
        · exact h.excl _ _ _ _ _ _ _ hq' hq2' hbb hg' hw
        · exact absurd (hbb.trans hb2) hne
  refine ⟨hle, hrel, by rw [length_hset]; exact Nat.le_refl _, by rw [hsz]; exact Nat.le_refl _, hos, htape, hout, fun b _ hw => ?_, fun b r hr => ?_, fun b _ hw B f q hq => ?_⟩
  rotate_right
  · rcases hnew B f q hq with hq' | ⟨_, e, _⟩
    · exact hw _ _ _ hq'
    · rw [e]; exact hw _ _ _ hp
  · have hb : b ≠ p.b := fun e => hw ⟨A, _, p, blk, hp, e.symm, hg, hwr⟩
    refine ⟨hoth _ hb, ?_⟩
    rintro ⟨B, f, q, b', hq, rfl, hg', hw'⟩
    by_cases hB : B = A
    · subst hB
      rcases hnew B f q hq with hq' | ⟨_, e, _⟩
      · exact hw ⟨B, f, q, blk, hq', rfl, hg, hwr⟩
      · exact hb e
    · rw [hget_hset_ne _ (Ne.symm hB)] at hg'
      exact hw ⟨B, f, q, b', (hold B f q hB hq).1, rfl, hg', hw'⟩
  · by_cases hb : b = p.b
    · subst hb; exact hloops r hr
    · exact ⟨r, by rw [hoth _ hb, hr]⟩

/-- Cells that grow at their end: what an elder extent sees stays. -/
theorem CellsAt.grow {P : Program} {ρ : Rho} {w : World} {cs : List Value} {ty : TypeId} {rw : Bool} {lo e : Nat} {p : Place} (l : List Value)
    (h : CellsAt P ρ w cs ty rw lo e p) : CellsAt P ρ w (cs ++ l) ty rw lo e p := by
  obtain ⟨h1, h2, h3, cur, ty', fr, h4, h5, h6, h7⟩ := h
  exact ⟨by simp; omega, h2, h3, cur, ty', fr, h4, h5, h6, fun hlo i c hi h0 hc => h7 hlo i c hi h0 (by rwa [List.getElem?_append_left (by omega)] at hc)⟩

/-- **A row of ours grows into a new block.** -/
theorem Post.regrow {P : Program} {ρ : Rho} {H : Heap} {w : World} (h : HRel P ρ H w) {A : Nat} {cs : List Value} {ty : TypeId} {lo ver : Nat} (l : List Value) (o : Obj) (p : Place)
    (hg : hget H A = some (.cells cs ty true lo ver)) (hl : l ≠ []) (hb : p.b = w.heap.size)
    (hc : CellsAt P (ρ.put A (cs.length + l.length) p) (w.alloc o) (cs ++ l) ty true lo (cs.length + l.length) p) :
    Post P ρ H w (ρ.put A (cs.length + l.length) p) (hset H A (.cells (cs ++ l) ty true lo ver)) (w.alloc o) := by
  have hA := hget_lt hg
  have hlen : 0 < l.length := List.length_pos_iff.2 hl
  obtain ⟨⟨p0, hp0⟩, hall0⟩ := h.cells _ _ _ _ _ _ hg
  have hno : ρ A (cs.length + l.length) = none := by
    cases hh : ρ A (cs.length + l.length) with
    | none => rfl
    | some q => have := (hall0 _ _ hh).le; omega
  have hle : ρ.Le (ρ.put A (cs.length + l.length) p) := .put hno
  have hold : ∀ B f q, (ρ.put A (cs.length + l.length) p) B f = some q → (B = A ∧ f = cs.length + l.length ∧ q = p) ∨ (ρ B f = some q ∧ q.b < w.heap.size) := fun B f q hq => by
    by_cases hh : B = A ∧ f = cs.length + l.length
    · obtain ⟨rfl, rfl⟩ := hh; rw [Rho.put_same] at hq; exact .inl ⟨rfl, rfl, (Option.some.inj hq).symm⟩
    · rw [Rho.put_ne hh] at hq; exact .inr ⟨hq, (h.dom _ _ _ hq).2⟩
  have hrel : HRel P (ρ.put A (cs.length + l.length) p) (hset H A (.cells (cs ++ l) ty true lo ver)) (w.alloc o) := by
    refine ⟨?_, ?_, ?_, ?_, ?_, ?_, h.full_hset _ _⟩
    · intro B f q hq
      rw [length_hset]
      rcases hold B f q hq with ⟨rfl, rfl, rfl⟩ | ⟨hq', hqb⟩
      · exact ⟨hA, by rw [hb]; simp⟩
      · exact ⟨(h.dom _ _ _ hq').1, by simp; omega⟩
    · intro B cs' ty' rw' lo' ver' hg'
      by_cases hB : B = A
      · subst hB
        rw [hget_hset_same _ hA] at hg'
        injection (Option.some.inj hg') with e1 e2 e3 e4 e5
        subst e1 e2 e3 e4 e5
        refine ⟨⟨p, by rw [List.length_append, Rho.put_same]⟩, fun f q hq => ?_⟩
        rcases hold _ f q hq with ⟨_, rfl, rfl⟩ | ⟨hq', hqb⟩
        · exact hc
        · exact ((hall0 f q hq').world hle (heap_alloc_old hqb)).grow l
      · rw [hget_hset_ne _ (Ne.symm hB)] at hg'
        obtain ⟨⟨q, hq⟩, hall⟩ := h.cells _ _ _ _ _ _ hg'
        refine ⟨⟨q, hle _ _ _ hq⟩, fun f q hq => ?_⟩
        rcases hold _ f q hq with ⟨e, _, _⟩ | ⟨hq', hqb⟩
        · exact absurd e hB
        · exact (hall f q hq').world hle (heap_alloc_old hqb)
    · intro B es ck ver' hg'
      by_cases hB : B = A
      · subst hB
        rw [hget_hset_same _ hA] at hg'; cases hg'
      · rw [hget_hset_ne _ (Ne.symm hB)] at hg'
        obtain ⟨q, es', hq, hw, hall⟩ := h.map _ _ _ _ hg'
        exact ⟨q, es', hle _ _ _ hq, by rw [heap_alloc_old (blk_lt hw), hw], hall.mono fun _ _ x => x.mono hle⟩
    · intro B r hg'
      by_cases hB : B = A
      · subst hB
        rw [hget_hset_same _ hA] at hg'; cases hg'
      · rw [hget_hset_ne _ (Ne.symm hB)] at hg'
        obtain ⟨q, r', hq, hw, hall⟩ := h.loop _ _ hg'
        exact ⟨q, r', hle _ _ _ hq, by rw [heap_alloc_old (blk_lt hw), hw], hall.mono hle⟩
    · intro B f q b hq hg'
      by_cases hB : B = A
      · subst hB
        rw [hget_hset_same _ hA] at hg'
        obtain rfl := Option.some.inj hg'
        exact .inl rfl
      · rw [hget_hset_ne _ (Ne.symm hB)] at hg'
        rcases hold _ f q hq with ⟨e, _, _⟩ | ⟨hq', _⟩
        · exact absurd e hB
        · exact h.one _ _ _ _ hq' hg'
    · intro B f q B2 f2 q2 b hq hq2 hbb hg' hw
      rcases hold _ f q hq with ⟨rfl, rfl, rfl⟩ | ⟨hq', hqb⟩
      · rcases hold _ f2 q2 hq2 with ⟨rfl, rfl, rfl⟩ | ⟨hq2', hqb2⟩
        · exact ⟨rfl, rfl⟩
        · omega
      · rcases hold _ f2 q2 hq2 with ⟨rfl, rfl, rfl⟩ | ⟨hq2', hqb2⟩
        · omega
        · by_cases hB : B = A
          · subst hB
            exact h.excl _ _ _ _ _ _ _ hq' hq2' hbb hg rfl
          · rw [hget_hset_ne _ (Ne.symm hB)] at hg'
            exact h.excl _ _ _ _ _ _ _ hq' hq2' hbb hg' hw
  refine ⟨hle, hrel, by rw [length_hset]; exact Nat.le_refl _, by simp, rfl, rfl, rfl, fun b hb' hw => ⟨heap_alloc_old hb', ?_⟩, fun b r hr => ⟨r, by rw [heap_alloc_old (blk_lt hr), hr]⟩, fun b hb' hw B f q hq => ?_⟩
  case refine_2 =>
    rcases hold _ f q hq with ⟨rfl, rfl, rfl⟩ | ⟨hq', _⟩
    · omega
    · exact hw _ _ _ hq'
  rintro ⟨B, f, q, b', hq, rfl, hg', hw'⟩
  rcases hold _ f q hq with ⟨rfl, rfl, rfl⟩ | ⟨hq', _⟩
  · omega
  · by_cases hB : B = A
    · subst hB
      exact hw ⟨B, f, q, _, hq', rfl, hg, rfl⟩
    · rw [hget_hset_ne _ (Ne.symm hB)] at hg'
      exact hw ⟨B, f, q, b', hq', rfl, hg', hw'⟩

end Go.Ds
/-
  Ds against the model: the operations that call nothing.
-/
namespace Go.Ds
section
variable {P : Program} {ρ : Rho} {H : Heap} {w : World}

/-- An operation's run is what Ds says. -/
def OpOk (P : Program) (ρ : Rho) (H : Heap) (w : World) (res : Result Next) (v : Value) (H' : Heap) : Prop :=
  ∃ ρ' v' nx w', res = .ok nx w' ∧ (nx = .value v' ∨ (nx = .skip ∧ v' = undef)) ∧ Post P ρ H w ρ' H' w' ∧ V ρ' v v'

theorem OpOk.pure (h : HRel P ρ H w) {res : Result Next} {v v' : Value} (hr : res = .ok (.value v') w) (hv : V ρ v v') : OpOk P ρ H w res v H :=
  ⟨ρ, v', _, w, hr, .inl rfl, .refl h, hv⟩

theorem pureRun_run {α : Type} (s : Sem α) {x : α} (h : pureRun P s = some x) (w : World) : s.run P w = .ok x w := by
  induction s with
  | pure a => simp only [pureRun, Option.some.injEq] at h; subst h; rfl
  | program k ih => simp only [pureRun] at h; simp only [Sem.run]; exact ih P h
  | _ => simp [pureRun] at h

theorem get_ok {l : List Value} {tm : Array Value} (hE : All2 (V ρ) l tm.toList) (t : Tmp) : V ρ (get l t) (tm.getD t undef) := by
  rw [get_eq]
  rw [List.getD_eq_getElem?_getD]
  have e : tm.getD t undef = (tm.toList[t]?).getD undef := by simp
  rw [e]
  cases h : l[t]? with
  | none =>
    have : tm.toList[t]? = none := by
      rw [List.getElem?_eq_none_iff] at h ⊢
      rw [← hE.length]; exact h
    rw [this]; exact .undef
  | some a =>
    obtain ⟨b, hb, r⟩ := hE.get t a h
    rw [hb]; exact r

theorem ev_ok {l : List Value} {a : Act} (hE : All2 (V ρ) l a.tmps.toList) {x : Operand} (hx : operandOk x = true) : V ρ (ev l x) (a.eval x) := by
  cases x with
  | tmp t => exact get_ok hE t
  | const v => exact .of_flat hx
  | global g => simp [operandOk] at hx
  | func f => exact .v1 (.c1 (.fn trivial trivial))

theorem put_ok {l : List Value} {a : Act} (hE : All2 (V ρ) l a.tmps.toList) {v v' : Value} (hv : V ρ v v') (d : Option Tmp) : All2 (V ρ) (put l d v) (a.put d v').tmps.toList := by
  cases d with
  | none => exact hE
  | some k => simp only [put, setL_eq, Act.put, Array.toList_setIfInBounds]; exact hE.set hv k

/-! ### Reading cells -/
theorem at_add {p : Place} {i : Nat} (h0 : 0 ≤ (i : Int) + p.d) (j : Nat) : p.at (i + j) = p.at i + j := by
  unfold Place.at; omega

theorem addr_add (b o j : Nat) : (⟨b, o, none⟩ : Addr).add j = ⟨b, o + j, none⟩ := by
  unfold Addr.add; split <;> simp_all

theorem cells_ok (h : HRel P ρ H w) {A i e n : Nat} {l : List Value} {p : Place} (hc : cellsAt H A i e n = some l) (hp : ρ A e = some p) (h0 : 0 ≤ (i : Int) + p.d) :
    ∃ l', All2 (C1 ρ) l l' ∧ l.length = n ∧ i + n ≤ e ∧ (∀ (j : Nat) v, l'[j]? = some v → w.cell? ((⟨p.b, p.at i, none⟩ : Addr).add j) = some v) := by
  unfold cellsAt at hc
  split at hc
  · rename_i cs ty rw lo ver hg
    split at hc
    · rename_i hcond
      simp only [Bool.and_eq_true, decide_eq_true_eq] at hcond
      obtain ⟨⟨hlo, hle⟩, hin⟩ := hcond
      obtain rfl := Option.some.inj hc
      obtain ⟨_, _, _, cur, ty', fr, hw, hsz, _, hcell⟩ := (h.cells _ _ _ _ _ _ hg).2 e p hp
      have hll : ((cs.drop i).take n).length = n := by simp; omega
      have hcur : ∀ j, j < n → ∃ c', cur[p.at i + j]? = some c' ∧ ∃ c, cs[i + j]? = some c ∧ C1 ρ c c' := fun j hj => by
        have hlt : i + j < cs.length := by omega
        obtain ⟨c', a, b⟩ := hcell hlo (i + j) cs[i + j] (by omega) (by omega) (List.getElem?_eq_getElem hlt)
        exact ⟨c', by rw [at_add h0] at a; exact a, _, List.getElem?_eq_getElem hlt, b⟩
      refine ⟨(cur.toList.drop (p.at i)).take n, All2.of_get ?_ ?_, hll, hin, ?_⟩
      · rw [hll]
        have : n = 0 ∨ p.at i + n ≤ cur.size := by
          rcases Nat.eq_zero_or_pos n with hn | hn
          · exact .inl hn
          · obtain ⟨c', hc', _⟩ := hcur (n - 1) (by omega)
            have := (Array.getElem?_eq_some_iff.1 hc').1
            exact .inr (by omega)
        simp
        omega
      · intro j a ha
        have hj : j < n := by
          have := (List.getElem?_eq_some_iff.1 ha).1; rw [hll] at this; exact this
        obtain ⟨c', hc', c, hcc, hr⟩ := hcur j hj
        rw [List.getElem?_take_of_lt hj, List.getElem?_drop, hcc] at ha
        obtain rfl := Option.some.inj ha
        exact ⟨c', by rw [List.getElem?_take_of_lt hj, List.getElem?_drop]; simpa using hc', hr⟩
      · intro j v hv
        have hj : j < n := by
          have := (List.getElem?_eq_some_iff.1 hv).1; simp at this; omega
        rw [List.getElem?_take_of_lt hj, List.getElem?_drop] at hv
        rw [addr_add]
        simp only [World.cell?, hw]
        simpa using hv
    · cases hc
  · cases hc

theorem V.ptr_inv {A i e : Nat} {v' : Value} (h : V ρ (.pointer (some ⟨A, i, some e⟩)) v') : ∃ p, ρ A e = some p ∧ 0 ≤ (i : Int) + p.d ∧ v' = .pointer (some ⟨p.b, p.at i, none⟩) := by
  cases h with
  | v1 h => cases h with
    | c1 h => cases h with
      | c0 h => cases h with
        | flat h => simp [scalar] at h
        | ptr h h0 => exact ⟨_, h, h0, rfl⟩

theorem V.slice_inv {A i e n c : Nat} {v' : Value} (h : V ρ (.slice (some ⟨A, i, some e⟩) n c) v') :
    ∃ p c' a, ρ A e = some p ∧ 0 ≤ (i : Int) + p.d ∧ i + n * p.k ≤ e ∧ n ≤ c' ∧ ((a = ⟨p.b, p.at i, none⟩ ∧ p.at i + c' * p.k ≤ p.sz) ∨ (n = 0 ∧ c' = 0)) ∧ c = p.k ∧ v' = .slice (some a) n c' := by
  cases h with
  | v1 h => cases h with
    | c1 h => cases h with
      | c0 h => cases h with
        | flat h => simp [scalar] at h
        | slice h h0 hn hc hs => exact ⟨_, _, _, h, h0, hn, hc, hs, rfl, rfl⟩

/-- A slice value of whatever kind: its shape. -/
theorem V.slice_any {o : Option Addr} {n c : Nat} {v' : Value} (h : V ρ (.slice o n c) v') :
    (o = none ∧ n = 0 ∧ c = 0 ∧ v' = .slice none 0 0) ∨ (∃ A i e p c' a, o = some ⟨A, i, some e⟩ ∧ ρ A e = some p ∧ 0 ≤ (i : Int) + p.d ∧ i + n * p.k ≤ e ∧ n ≤ c' ∧ ((a = ⟨p.b, p.at i, none⟩ ∧ p.at i + c' * p.k ≤ p.sz) ∨ (n = 0 ∧ c' = 0)) ∧ c = p.k ∧ v' = .slice (some a) n c') := by
  cases h with
  | v1 h => cases h with
    | c1 h => cases h with
      | c0 h => cases h with
        | flat h =>
          cases o with
          | none => simp only [scalar, Bool.and_eq_true, beq_iff_eq] at h; obtain ⟨rfl, rfl⟩ := h; exact .inl ⟨rfl, rfl, rfl, rfl⟩
          | some a => simp [scalar] at h
        | slice h h0 hn hc hs => exact .inr ⟨_, _, _, _, _, _, rfl, h, h0, hn, hc, hs, rfl, rfl⟩

theorem run_isAggP {t : TypeId} {b : Bool} (h : aggP P t = some b) (w : World) : (isAgg t).run P w = .ok b w := by
  unfold aggP at h
  unfold isAgg
  cases hu : P.underlying t with
  | none => rw [hu] at h; cases h
  | some d =>
    rw [hu] at h
    simp only [Sem.run_bind, run_underlying hu, Result.andThen_ok]
    cases d <;> simp at h <;> subst h <;> rfl

theorem run_sizeP {t : TypeId} {n : Nat} (h : sizeP P t = some n) (w : World) : (sizeOf t).run P w = .ok n w := by
  unfold sizeP at h
  cases hi : P.info? t with
  | none => rw [hi] at h; cases h
  | some i => rw [hi] at h; obtain rfl := Option.some.inj h; simp [sizeOf, typeInfo, hi]

theorem run_zeroP {t : TypeId} {z : Value} (h : zeroP P t = some z) (w : World) : (zeroValue t).run P w = .ok z w := by
  unfold zeroP at h
  cases hi : P.info? t with
  | none => rw [hi] at h; cases h
  | some i => rw [hi] at h; simp only [Option.bind_some] at h; simp [zeroValue, typeInfo, hi, h]

theorem load_ok (h : HRel P ρ H w) {t : TypeId} {v v' r : Value} (hl : loadD P H t v = some r) (hv : V ρ v v') : ∃ r', (Instr.loadAt t v').run P w = .ok r' w ∧ V ρ r r' := by
  unfold loadD at hl
  split at hl
  · rename_i A i e
    obtain ⟨p, hp, h0, rfl⟩ := hv.ptr_inv
    split at hl
    · rename_i hagg
      cases hs : sizeP P t with
      | none => rw [hs] at hl; cases hl
      | some n =>
        rw [hs] at hl
        simp only [Option.bind_some, Option.map_eq_some_iff] at hl
        obtain ⟨l, hc, rfl⟩ := hl
        obtain ⟨l', hall, hlen, _, hcell⟩ := cells_ok h hc hp h0
        refine ⟨.agg l'.toArray, ?_, .v1 (.agg (by simpa using hall))⟩
        have hn : l'.length = n := by rw [← hall.length, hlen]
        have := run_loadCells_list (P := P) w ⟨p.b, p.at i, none⟩ l' hcell
        rw [hn] at this
        simp [Instr.loadAt, Instr.sureAddr, loadVar, run_isAggP hagg, run_sizeP hs, this]
    · rename_i hagg
      cases hc : cellsAt H A i e 1 with
      | none => rw [hc] at hl; cases hl
      | some l =>
        rw [hc] at hl
        simp only [Option.bind_some] at hl
        obtain ⟨l', hall, hlen, _, hcell⟩ := cells_ok h hc hp h0
        obtain ⟨r', hr', hrel⟩ := hall.get 0 r hl
        refine ⟨r', ?_, .v1 (.c1 hrel)⟩
        have hcl : w.cell? ⟨p.b, p.at i, none⟩ = some r' := hcell 0 r' hr'
        simp [Instr.loadAt, Instr.sureAddr, loadVar, run_isAggP hagg, run_load, hcl]
    · cases hl
  · cases hl

end
end Go.Ds
/-
  Ds against the model: writing cells, new rows.
-/
namespace Go.Ds
section
variable {P : Program} {ρ : Rho} {H : Heap} {w : World}

theorem length_setMany : ∀ (l cs : List Value) (i : Nat), (setMany cs i l).length = cs.length
  | [], _, _ => rfl
  | v :: l, cs, i => by simp [setMany, setL_eq, length_setMany l]

theorem getElem?_setMany : ∀ (l cs : List Value) (i j : Nat), i + l.length ≤ cs.length → (setMany cs i l)[j]? = if i ≤ j ∧ j < i + l.length then l[j - i]? else cs[j]?
  | [], cs, i, j, _ => by simp [setMany]; omega
  | v :: l, cs, i, j, h => by
    simp only [setMany, setL_eq, List.length_cons] at h ⊢
    rw [getElem?_setMany l (cs.set i v) (i + 1) j (by simp; omega)]
    by_cases hj : j = i
    · subst hj
      rw [if_neg (by omega), if_pos (by omega), List.getElem?_set_self (by omega)]
      simp
    · by_cases h2 : i + 1 ≤ j ∧ j < i + 1 + l.length
      · rw [if_pos h2, if_pos (by omega)]
        have : j - i = (j - (i + 1)) + 1 := by omega
        rw [this]; rfl
      · rw [if_neg h2, if_neg (by omega), List.getElem?_set_ne (by omega)]

theorem seg_get (l m : List Value) (o j : Nat) (h : o + m.length ≤ l.length) : (l.take o ++ m ++ l.drop (o + m.length))[j]? = if o ≤ j ∧ j < o + m.length then m[j - o]? else l[j]? := by
  have hlen : (l.take o).length = o := by simp; omega
  by_cases h1 : j < o
  · rw [if_neg (by omega), List.append_assoc, List.getElem?_append_left (by omega), List.getElem?_take_of_lt h1]
  · by_cases h2 : j < o + m.length
    · rw [if_pos (by omega), List.getElem?_append_left (by simp; omega), List.getElem?_append_right (by omega), hlen]
    · rw [if_neg (by omega), List.getElem?_append_right (by simp; omega)]
      simp only [List.length_append, hlen, List.getElem?_drop]
      congr 1; omega

/-- **Cells of a row of ours are written.** -/
theorem write_ok (h : HRel P ρ H w) {A i : Nat} {cs : List Value} {ty : TypeId} {lo ver : Nat} {p : Place} (ver' : Nat) {l l' : List Value} (hg : hget H A = some (.cells cs ty true lo ver))
    (hp : ρ A cs.length = some p) (h0 : 0 ≤ (i : Int) + p.d) (hl : All2 (C1 ρ) l l') (hi : i + l.length ≤ cs.length) (hlo0 : lo ≤ cs.length) :
    ∃ w', (storeCells ⟨p.b, p.at i, none⟩ l').run P w = .ok () w' ∧ Post P ρ H w ρ (hset H A (.cells (setMany cs i l) ty true cs.length ver')) w' := by
  have hall := (h.cells _ _ _ _ _ _ hg).2
  obtain ⟨_, hk, hfit, cur, ty', fr, hw, hsz, hfr, hcell⟩ := hall _ _ hp
  obtain rfl := hfr rfl
  have hll := hl.length
  have hati : p.at i + l'.length ≤ cur.size := by
    rw [← hll, hsz]; unfold Place.at; omega
  have hst := run_storeCells_at P p.b (p.at i) ty' l' 0 cur w hw (by simpa using hati) hl.oneCells
  simp only [Nat.add_zero] at hst
  refine ⟨_, hst, ?_⟩
  have hseg : ∀ (j : Nat), ((cur.toList.take (p.at i) ++ l' ++ cur.toList.drop (p.at i + l'.length)).toArray)[j]? = if p.at i ≤ j ∧ j < p.at i + l'.length then l'[j - p.at i]? else cur[j]? := fun j => by
    have := seg_get cur.toList l' (p.at i) j (by simpa using hati)
    simpa using this
  have hsize : ((cur.toList.take (p.at i) ++ l' ++ cur.toList.drop (p.at i + l'.length)).toArray).size = cur.size := by
    simp; omega
  generalize (cur.toList.take (p.at i) ++ l' ++ cur.toList.drop (p.at i + l'.length)).toArray = new at hseg hsize
  refine Post.upd h _ hg rfl hp (.refl ρ) (fun _ _ _ hq => .inl hq) (setRow_size _ _ _) (fun b hb => setRow_other _ _ _ _ hb) rfl rfl rfl ?_ (fun _ _ _ e => by cases e) (fun _ e => by cases e) (fun _ _ _ => .inl rfl)
    (fun r hr => by rw [hw] at hr; cases hr)
  intro cs2 ty2 rw2 lo2 ver2 e
  injection e with e1 e2 e3 e4 e5
  subst e1 e2 e3 e4 e5
  rw [length_setMany]
  refine ⟨⟨p, hp⟩, fun f q hq => ?_⟩
  have hq0 := hall f q hq
  obtain ⟨q1, q2, q3, qcur, qty, qfr, q4, q5, q6, q7⟩ := hq0
  by_cases hqb : q.b = p.b
  · have hqd : q.d = p.d := (h.excl _ _ _ _ _ _ _ hp hq hqb.symm hg rfl).2
    rw [hqb, hw] at q4
    injection (Option.some.inj q4) with e1 e2 e3
    subst e1 e2 e3
    refine ⟨by rw [length_setMany]; exact q1, q2, q3, new, ty', (0, 0), by rw [hqb]; exact setRow_heap w p.b cur new ty' (0, 0) hw, by rw [hsize]; exact q5, fun _ => rfl, fun hlo j c hj hj0 hc => ?_⟩
    have hf : f = cs.length := by omega
    subst hf
    have hat : q.at j = p.at j := by unfold Place.at; rw [hqd]
    have hj0' : 0 ≤ (j : Int) + p.d := by rw [← hqd]; exact hj0
    rw [getElem?_setMany l cs i j hi] at hc
    rw [hat, hseg]
    by_cases hin : i ≤ j ∧ j < i + l.length
    · rw [if_pos hin] at hc
      obtain ⟨c', hc', hr⟩ := hl.get _ _ hc
      refine ⟨c', ?_, hr⟩
      have e1 : p.at j = p.at i + (j - i) := by unfold Place.at; omega
      rw [if_pos (by omega), e1]
      simpa using hc'
    · rw [if_neg hin] at hc
      obtain ⟨c', hc', hr⟩ := q7 (by omega) j c hj hj0 hc
      refine ⟨c', ?_, hr⟩
      rw [hat] at hc'
      rw [if_neg (by unfold Place.at; omega)]
      exact hc'
  · refine ⟨by rw [length_setMany]; exact q1, q2, q3, qcur, qty, qfr, by rw [setRow_other _ _ _ _ hqb]; exact q4, q5, q6, fun hlo j c hj hj0 hc => ?_⟩
    have hf : f = cs.length := by omega
    subst hf
    rw [hp] at hq
    exact absurd (by rw [Option.some.inj hq]) hqb

theorem store_ok (h : HRel P ρ H w) {t : TypeId} {v v' x x' : Value} {H' : Heap} (hs : storeD P H t v x = some H') (hv : V ρ v v') (hx : V ρ x x') :
    ∃ w', (Instr.storeAt t v' x').run P w = .ok () w' ∧ Post P ρ H w ρ H' w' := by
  unfold storeD at hs
  split at hs
  · rename_i A i e
    obtain ⟨p, hp, h0, rfl⟩ := hv.ptr_inv
    split at hs
    · rename_i cs ty lo ver hg
      simp only at hs
      split at hs
      · rename_i hcond
        obtain ⟨hsize, hone, rfl, hin, hlo⟩ := hcond
        obtain rfl := Option.some.inj hs
        have hl := hx.cells hone
        obtain ⟨w', hrun, hpost⟩ := write_ok h (ver + 1) hg hp h0 hl hin hlo
        refine ⟨w', ?_, hpost⟩
        have hsz : x'.cells.size = x.cells.toList.length := by rw [hl.length]; simp
        simp [Instr.storeAt, Instr.sureAddr, storeVar, run_sizeP hsize, hsz, hrun]
      · cases hs
    · cases hs
  · cases hs

/-- A new row, all of whose cells are known. -/
theorem row_ok (h : HRel P ρ H w) (ty : TypeId) {n : Nat} (hn : sizeP P ty = some n) {l l' : List Value} (hl : All2 (C1 ρ) l l') :
    Post P ρ H w (ρ.put H.length l.length ⟨w.heap.size, 0, l.length, n⟩) (rowD H ty l) (w.alloc (.cells l'.toArray ty)) := by
  rw [rowD_eq]
  have hno : ∀ f, ρ H.length f = none := fun f => by
    cases hh : ρ H.length f with
    | none => rfl
    | some q => exact absurd (h.dom _ _ _ hh).1 (Nat.lt_irrefl _)
  refine Post.new h _ _ l.length ⟨w.heap.size, 0, l.length, n⟩ rfl ?_ (fun _ _ _ e => by cases e) (fun _ e => by cases e)
  intro cs ty2 rw2 lo ver e
  injection e with e1 e2 e3 e4 e5
  subst e1 e2 e3 e4 e5
  refine ⟨rfl, Nat.le_refl _, hn, by simp, l'.toArray, ty, (0, 0), heap_alloc_new _ _, by simp [hl.length], fun _ => rfl, fun _ i c hi _ hc => ?_⟩
  obtain ⟨c', hc', hr⟩ := hl.get i c hc
  exact ⟨c', by simpa [Place.at] using hc', hr.mono (.put (hno _))⟩

theorem new_ok (h : HRel P ρ H w) {t : TypeId} {v v' r : Value} {H' : Heap} (hs : newD P H t v = some (r, H')) (hv : V ρ v v') :
    ∃ ρ' r' w', (do pure (Value.pointer (some (← newVar t v'))) : Sem Value).run P w = .ok r' w' ∧ Post P ρ H w ρ' H' w' ∧ V ρ' r r' := by
  unfold newD at hs
  simp only at hs
  split at hs
  · rename_i hcond
    simp only [Bool.and_eq_true, beq_iff_eq] at hcond
    obtain ⟨hone, hsz⟩ := hcond
    injection (Option.some.inj hs) with e1 e2
    subst e1 e2
    have hl := hv.cells hone
    have hpost := row_ok h t hsz hl
    refine ⟨_, .pointer (some ⟨w.heap.size, 0, none⟩), _, ?_, hpost, .v1 (.c1 (.c0 ?_))⟩
    · simp [newVar, newRow]
    · have := C0.ptr (ρ := ρ.put H.length v.cells.toList.length ⟨w.heap.size, 0, v.cells.toList.length, v.cells.toList.length⟩) (A := H.length) (i := 0) (e := v.cells.toList.length) (Rho.put_same _ _ _ _) (by simp)
      simpa [Place.at] using this
  · cases hs

/-! ### Building -/
theorem foldl_set_ok {vs vs' : List Value} (off : Nat) (hv : All2 (C1 ρ) vs vs') : ∀ (k : Nat) (cs cs' : Array Value), All2 (C1 ρ) cs.toList cs'.toList →
    All2 (C1 ρ) ((vs.zipIdx k).foldl (fun (cs : Array Value) (c, j) => cs.setIfInBounds (off + j) c) cs).toList ((vs'.zipIdx k).foldl (fun (cs : Array Value) (c, j) => cs.setIfInBounds (off + j) c) cs').toList := by
  induction vs generalizing vs' with
  | nil => intro k cs cs' hc; cases vs' with | nil => exact hc | cons => exact hv.elim
  | cons a vs ih =>
    intro k cs cs' hc
    cases vs' with
    | nil => exact hv.elim
    | cons b vs' =>
      simp only [List.zipIdx_cons, List.foldl_cons]
      refine ih hv.2 _ _ _ ?_
      simp only [Array.toList_setIfInBounds]
      exact hc.set hv.1 _

/-- Parts that correspond. -/
def Parts (ρ : Rho) : List (Nat × Value) → List (Nat × Value) → Prop := All2 fun a b => b.1 = a.1 ∧ V ρ a.2 b.2

theorem V.cells_size {v v' : Value} (h : V ρ v v') : v'.cells.size = v.cells.size := by
  cases h with
  | v1 h => cases h with
    | agg h => simpa [Value.cells] using h.length.symm
    | c1 h =>
      have : v.cells.toList = [v] ∧ v'.cells.toList = [v'] := by
        cases h with
        | c0 h => cases h with
          | flat h => cases v <;> first | exact ⟨rfl, rfl⟩ | simp [scalar] at h
          | _ => exact ⟨rfl, rfl⟩
        | _ => exact ⟨rfl, rfl⟩
      rw [← Array.length_toList, ← Array.length_toList, this.1, this.2]; rfl
  | tuple h => rfl

/-- Of a value that is put into cells: its cells. A tuple is never. -/
theorem fill_ok (place : Nat → Option (Nat × Nat)) : ∀ (ps ps' : List (Nat × Value)), Parts ρ ps ps' → (∀ x ∈ ps, x.2.cells.toList.all oneCell = true) → ∀ (cs cs' : Array Value) (r : Array Value),
    All2 (C1 ρ) cs.toList cs'.toList → Instr.fill place cs ps = some r → ∃ r', Instr.fill place cs' ps' = some r' ∧ All2 (C1 ρ) r.toList r'.toList
  | [], [], _, _, cs, cs', r, hc, hf => by
    simp only [Instr.fill, Option.some.injEq] at hf; subst hf
    exact ⟨cs', rfl, hc⟩
  | (i, v) :: ps, (i', v') :: ps', ⟨⟨hi, hv⟩, hps⟩, h1, cs, cs', r, hc, hf => by
    simp only at hi hv; subst hi
    simp only [Instr.fill] at hf ⊢
    cases hp : place i' with
    | none => rw [hp] at hf; cases hf
    | some os =>
      obtain ⟨off, size⟩ := os
      rw [hp] at hf
      simp only at hf ⊢
      have hsz := hv.cells_size
      have hcs : cs'.size = cs.size := by simpa using hc.length.symm
      split at hf
      · cases hf
      · rename_i hcond
        rw [if_neg (by rw [hsz, hcs]; exact hcond)]
        refine fill_ok place ps ps' hps (fun x hx => h1 x (by simp [hx])) _ _ _ ?_ hf
        have := foldl_set_ok off (hv.cells (h1 (i', v) (by simp))) 0 cs cs' hc
        have e : ∀ (a : Array Value) (b : Array Value), (a.zipIdx.foldl (fun cs (c, j) => cs.setIfInBounds (off + j) c) b) = ((a.toList.zipIdx 0).foldl (fun (cs : Array Value) (c, j) => cs.setIfInBounds (off + j) c) b) := fun a b => by
          rw [← Array.foldl_toList]; simp
        rw [e, e]; exact this
  | [], _ :: _, h, _, _, _, _, _, _ => h.elim
  | _ :: _, [], h, _, _, _, _, _, _ => h.elim
end
end Go.Ds
/-
  Ds against the model: building, make, append, copy, cuts.
-/
namespace Go.Ds
section
variable {P : Program} {ρ : Rho} {H : Heap} {w : World}

theorem V1.cells {v v' : Value} (h : V1 ρ v v') : All2 (C1 ρ) v.cells.toList v'.cells.toList := by
  cases h with
  | agg h => exact h
  | c1 h =>
    have : v.cells.toList = [v] ∧ v'.cells.toList = [v'] := by
      cases h with
      | c0 h => cases h with
        | flat h => cases v <;> first | exact ⟨rfl, rfl⟩ | simp [scalar] at h
        | _ => exact ⟨rfl, rfl⟩
      | _ => exact ⟨rfl, rfl⟩
    rw [this.1, this.2]
    exact ⟨h, trivial⟩

theorem zero_cells {z : Value} (h : flat1 z = true) : All2 (C1 ρ) z.cells.toList z.cells.toList := (V1.of_flat h).cells

theorem built_ok {t : TypeId} {ps ps' : List (Nat × Value)} (hps : Parts ρ ps ps') (h1 : ∀ x ∈ ps, x.2.cells.toList.all oneCell = true) (hz : ∀ z, zeroP P t = some z → flat1 z = true)
    {r : Array Value} (hb : P.built t ps = some r) : ∃ r', P.built t ps' = some r' ∧ All2 (C1 ρ) r.toList r'.toList := by
  unfold Program.built at hb ⊢
  cases hit : P.info? t with
  | none => simp [hit] at hb
  | some it =>
    cases hu : P.underlying t with
    | none => simp [hit, hu] at hb
    | some d =>
      cases hzz : it.zero with
      | none => cases d <;> simp [hit, hu, hzz] at hb
      | some z =>
        have hfl : flat1 z = true := hz z (by simp [zeroP, hit, hzz])
        cases d <;> try (simp [hit, hu] at hb; done)
        case array n e =>
          cases hie : P.info? e with
          | none => simp [hit, hu, hzz, hie] at hb
          | some ie =>
            simp only [hit, hu, hzz, hie] at hb ⊢
            exact fill_ok _ ps ps' hps h1 _ _ _ (zero_cells hfl) hb
        case struct fields =>
          cases hp : fields.toList.mapM (fun f => (P.info? f.type).map fun i => (f.offset, i.size)) with
          | none => simp [hit, hu, hzz, hp] at hb
          | some places =>
            simp only [hit, hu, hzz, hp] at hb ⊢
            exact fill_ok _ ps ps' hps h1 _ _ _ (zero_cells hfl) hb

theorem parts_ok {l : List Value} {a : Act} : ∀ (parts : List (Nat × Operand)), (∀ x ∈ parts, V ρ (ev l x.2) (a.eval x.2)) →
    Parts ρ (parts.map fun (i, x) => (i, ev l x)) (parts.map fun (i, x) => (i, a.eval x))
  | [], _ => trivial
  | (i, x) :: ps, h => ⟨⟨rfl, h (i, x) (by simp)⟩, parts_ok ps fun y hy => h y (by simp [hy])⟩

theorem foldl_size (off : Nat) (a : Array (Value × Nat)) (cs : Array Value) : (a.foldl (fun (cs : Array Value) (x : Value × Nat) => cs.setIfInBounds (off + x.2) x.1) cs).size = cs.size := by
  rw [← Array.foldl_toList]
  generalize a.toList = l
  induction l generalizing cs with
  | nil => rfl
  | cons x l ih => simp only [List.foldl_cons]; rw [ih]; simp

theorem fill_size (place : Nat → Option (Nat × Nat)) : ∀ (ps : List (Nat × Value)) (cs r : Array Value), Instr.fill place cs ps = some r → r.size = cs.size
  | [], cs, r, h => by simp only [Instr.fill, Option.some.injEq] at h; rw [h]
  | (i, v) :: ps, cs, r, h => by
    simp only [Instr.fill] at h
    cases hp : place i with
    | none => rw [hp] at h; cases h
    | some os =>
      obtain ⟨off, size⟩ := os
      rw [hp] at h
      simp only at h
      split at h
      · cases h
      · rw [fill_size place ps _ _ h]
        exact foldl_size off _ _

/-- The value of a slice over a new row. -/
theorem slice_new {ρ : Rho} {A n k sz b : Nat} (hsz : n * k = sz) (hp : ρ A sz = some ⟨b, 0, sz, k⟩) : V ρ (.slice (some ⟨A, 0, some sz⟩) n k) (.slice (some ⟨b, 0, none⟩) n n) := by
  have := C0.slice (ρ := ρ) (A := A) (i := 0) (e := sz) (n := n) (c' := n) hp (by simp) (by simp [hsz]) (Nat.le_refl _) (.inl ⟨rfl, by simp [Place.at, hsz]⟩)
  exact .v1 (.c1 (.c0 (by simpa [Place.at] using this)))

theorem zeros_ok {z : Value} (h : flat1 z = true) (n : Nat) : All2 (C1 ρ) (((Array.range n).map (z.cells[· % z.cells.size]!)).toList) (((Array.range n).map (z.cells[· % z.cells.size]!)).toList) := by
  refine All2.same fun a ha => ?_
  simp only [Array.toList_map, List.mem_map] at ha
  obtain ⟨i, _, rfl⟩ := ha
  by_cases hz : i % z.cells.size < z.cells.size
  · rw [getElem!_pos z.cells _ hz]
    have := zero_cells (ρ := ρ) h
    obtain ⟨b, hb, hr⟩ := this.get (i % z.cells.size) (z.cells[i % z.cells.size]) (by simp)
    simp only [Array.getElem?_toList, Array.getElem?_eq_getElem hz, Option.some.injEq] at hb
    subst hb; exact hr
  · rw [getElem!_neg z.cells _ hz]; exact .of_scalar rfl

theorem sliceElem_some {t e : TypeId} (h : sliceElem P t = some e) : P.underlying t = some (.slice e) := by
  unfold sliceElem at h
  split at h
  · rename_i heq; rw [heq, Option.some.inj h]
  · cases h

theorem sizeP_some {t : TypeId} {n : Nat} (h : sizeP P t = some n) : ∃ i, P.info? t = some i ∧ i.size = n := by
  unfold sizeP at h
  cases hi : P.info? t with
  | none => rw [hi] at h; cases h
  | some i => rw [hi] at h; exact ⟨i, rfl, Option.some.inj h⟩


theorem room_i64 {n b : Nat} (h : (n : Int) * (b + 1) ≤ (roomD : Int)) : n ≤ 17592186044416 ∧ n * b ≤ 17592186044416 := by
  have hr : roomD = 17592186044416 := by decide
  rw [hr] at h
  have h' : n * (b + 1) ≤ 17592186044416 := by exact_mod_cast h
  exact ⟨Nat.le_trans (Nat.le_mul_of_pos_right n (by omega)) h', Nat.le_trans (Nat.mul_le_mul_left n (by omega)) h'⟩
end
end Go.Ds
/-
  Ds against the model: new slices, append, copy, cuts.
-/
namespace Go.Ds
section
variable {P : Program} {ρ : Rho} {H : Heap} {w : World}

theorem rho_none (h : HRel P ρ H w) (f : Nat) : ρ H.length f = none := by
  cases hh : ρ H.length f with
  | none => rfl
  | some q => exact absurd (h.dom _ _ _ hh).1 (Nat.lt_irrefl _)

/-- A slice over a new row of len elements. -/
theorem newSlice_ok (h : HRel P ρ H w) {elem : TypeId} {size len : Nat} (hs : sizeP P elem = some size) {l l' : List Value} (hl : All2 (C1 ρ) l l') (hlen : len * size = l.length) :
    ∃ ρ', Post P ρ H w ρ' (rowD H elem l) (w.alloc (.cells l'.toArray elem)) ∧ V ρ' (.slice (some ⟨H.length, 0, some l.length⟩) len size) (.slice (some ⟨w.heap.size, 0, none⟩) len len) :=
  ⟨_, row_ok h elem hs hl, slice_new hlen (Rho.put_same _ _ _ _)⟩

theorem sizes_of {t : TypeId} {n b : Nat} {z : Value} (h1 : sizeP P t = some n) (h2 : bytesP P t = some b) (h3 : zeroP P t = some z) : ∃ i, P.info? t = some i ∧ i.size = n ∧ i.bytes = b ∧ i.zero = some z := by
  unfold sizeP at h1; unfold bytesP at h2; unfold zeroP at h3
  cases hi : P.info? t with
  | none => rw [hi] at h1; cases h1
  | some i => rw [hi] at h1 h2 h3; exact ⟨i, rfl, Option.some.inj h1, Option.some.inj h2, h3⟩

/-- The source of an append or a copy: n elements, read whatever the draws. -/
structure SrcOk (P : Program) (w : World) (size n : Nat) (x : Value) (l : List Value) : Prop where
  len : ∀ w2 : World, (Builtin.lenOf x).run P w2 = .ok n w2
  cells : ∀ w2 : World, w2.heap = w.heap → (Builtin.firstCells size n x).run P w2 = .ok l.toArray w2
  size : l.length = n * size

theorem cell?_heap {w w2 : World} (h : w2.heap = w.heap) (a : Addr) : w2.cell? a = w.cell? a := by simp [World.cell?, h]

theorem firstCells_ok (h : HRel P ρ H w) {A i e n size k c : Nat} {l : List Value} {p : Place} {a : Addr} (hc : cellsAt H A i e (n * size) = some l) (hp : ρ A e = some p) (h0 : 0 ≤ (i : Int) + p.d)
    (ha : a = ⟨p.b, p.at i, none⟩ ∨ n = 0) :
    ∃ l', All2 (C1 ρ) l l' ∧ l.length = n * size ∧ i + n * size ≤ e ∧ ∀ w2 : World, w2.heap = w.heap → (Builtin.firstCells size n (.slice (some a) k c)).run P w2 = .ok l'.toArray w2 := by
  obtain ⟨l', hall, hlen, hin, hcell⟩ := cells_ok h hc hp h0
  refine ⟨l', hall, hlen, hin, fun w2 hw => ?_⟩
  rcases ha with rfl | rfl
  · exact run_firstCells_some w2 size n _ k c l' (by rw [← hall.length, hlen]) fun j v hv => by rw [cell?_heap hw]; exact hcell j v hv
  · have : l' = [] := List.length_eq_zero_iff.1 (by rw [← hall.length, hlen]; simp)
    subst this
    exact run_firstCells_some w2 size 0 _ k c [] (by simp) (fun j v hv => by simp at hv)

/-- An append that finds room. -/
theorem run_app_room {st xt elem : TypeId} {d : TypeDesc} {size n sLen sCap : Nat} {a : Addr} {x : Value} {l : List Value} (hst : P.underlying st = some (.slice elem)) (hxt : P.underlying xt = some d)
    (hd : notInt d = true) (hs : sizeP P elem = some size) (hx : SrcOk P w size n x l) (hroom : sLen + n ≤ sCap) (ty : TypeId) {w' : World}
    (hw : (storeCells (a.add (sLen * size)) l).run P w = .ok () w') :
    (Builtin.append_ #[st, xt] ty #[.slice (some a) sLen sCap, x]).run P w = .ok (.slice (some a) (sLen + n) sCap) w' := by
  unfold Builtin.append_
  simp only [List.getElem?_toArray, List.getElem?_cons_zero, List.getElem?_cons_succ, Sem.run_bind, run_underlying hst, run_sizeP hs, run_underlying hxt, Result.andThen_ok, Sem.run_pure]
  cases d <;> first
    | (simp [notInt] at hd; done)
    | simp [hx.len, hroom, hx.cells w rfl, hw]

/-- An append that makes a new row. -/
theorem run_app_grow {st xt elem : TypeId} {d : TypeDesc} {i : TypeInfo} {z : Value} {n sLen sCap : Nat} {base : Option Addr} {x : Value} {l olds : List Value} (hst : P.underlying st = some (.slice elem)) (hxt : P.underlying xt = some d)
    (hd : notInt d = true) (hi : P.info? elem = some i) (hz0 : i.zero = some z) (hx : SrcOk P w i.size n x l) (hroom : sCap < sLen + n) (ty : TypeId)
    (hold : ∀ w2 : World, w2.heap = w.heap → (Builtin.firstCells i.size sLen (.slice base sLen sCap)).run P w2 = .ok olds.toArray w2)
    (hmax : (sLen + n) * (i.bytes + 1) ≤ roomD) :
    ∃ m, sLen + n ≤ m ∧ (Builtin.append_ #[st, xt] ty #[.slice base sLen sCap, x]).run P w = .ok (.slice (some ⟨w.heap.size, 0, none⟩) (sLen + n) m) (w.drew.alloc (.cells (olds.toArray ++ (l.toArray ++ Builtin.zeroCells z.cells (m - (sLen + n)))) elem)) := by
  have hr : roomD = 17592186044416 := by decide
  rw [hr] at hmax
  have hn : sLen + n ≤ 17592186044416 := Nat.le_trans (Nat.le_mul_of_pos_right _ (by omega)) hmax
  have hb : (sLen + n) * i.bytes ≤ 17592186044416 := Nat.le_trans (Nat.mul_le_mul_left _ (by omega)) hmax
  have hfit := growslice_fits (need := sLen + n) (old := sCap) (bytes := i.bytes) hroom (by omega)
  have hn1 : ¬ (sLen + n ≤ sCap) := by omega
  have hn2 : ¬ (9223372036854775807 < ((sLen : Int) + (n : Int))) := by omega
  have hn3 : ¬ (281474976710656 < Builtin.nextslicecap (sLen + n) sCap * i.bytes) := by omega
  refine ⟨grownCap w (sLen + n) sCap elem, ?_, ?_⟩
  · unfold grownCap Question.cut; simp only; omega
  · unfold Builtin.append_
    have hsz : ∀ w2 : World, (sizeOf elem).run P w2 = .ok i.size w2 := fun w2 => run_sizeP (by simp [sizeP, hi]) w2
    simp only [List.getElem?_toArray, List.getElem?_cons_zero, List.getElem?_cons_succ, Sem.run_bind, run_underlying hst, hsz, run_underlying hxt, Result.andThen_ok, Sem.run_pure]
    have hold' := hold w.drew rfl
    have hx' := hx.cells w.drew rfl
    cases d <;> first
    | (simp [notInt] at hd; done)
    | simp [hx.len, hn1, hn2, hn3, typeInfo, hi, Question.forced, hold', hx', zeroValue, hz0, newRow, grownCap]

theorem size_zeroCells (z : Array Value) (n : Nat) : (Builtin.zeroCells z n).size = n * z.size := by simp [Builtin.zeroCells]

theorem srcNew_ok (h : HRel P ρ H w) {size n : Nat} {l : List Value} {x x' : Value} (hx : V ρ x x') (hn : srcNew H size x = some (n, l)) : ∃ l', All2 (C1 ρ) l l' ∧ SrcOk P w size n x' l' := by
  unfold srcNew at hn
  split at hn
  · injection (Option.some.inj hn) with e1 e2
    subst e1 e2
    rcases hx.slice_any with ⟨_, _, _, rfl⟩ | ⟨A, j, e, p, c', a, hh, _⟩
    · exact ⟨[], trivial, fun _ => rfl, fun _ _ => run_firstCells_none _ _ _ _ _, by simp⟩
    · cases hh
  · rename_i A j e k c
    obtain ⟨p, c', a, hp, h0, _, _, ha, _, rfl⟩ := hx.slice_inv
    cases hc : cellsAt H A j e (k * size) with
    | none => rw [hc] at hn; cases hn
    | some l0 =>
      rw [hc] at hn
      injection (Option.some.inj hn) with e1 e2
      subst e1 e2
      obtain ⟨l', hall, hlen, _, hrun⟩ := firstCells_ok (k := k) (c := c') h hc hp h0 (ha.imp And.left And.left)
      exact ⟨l', hall, fun _ => rfl, hrun, by rw [← hall.length, hlen]⟩
  · rename_i b
    have hx' : x' = .string b := hx.eq_of_flat rfl
    subst hx'
    split at hn
    · rename_i h1
      simp only [beq_iff_eq] at h1
      injection (Option.some.inj hn) with e1 e2
      subst e1 e2
      refine ⟨_, All2.same fun v hv => ?_, fun _ => rfl, fun w2 _ => ?_, by subst h1; simp⟩
      · simp only [List.mem_map] at hv
        obtain ⟨u, _, rfl⟩ := hv
        exact .of_scalar rfl
      · simp only [Builtin.firstCells]
        have e : b.extract 0 b.size = b := by simp
        rw [e]
        simp only [Sem.run_pure]
        congr 1
        apply Array.ext'
        simp
    · cases hn
  · cases hn

theorem appendD_ok (h : HRel P ρ H w) {st xt : TypeId} {d : TypeDesc} {s s' x x' r : Value} {H' : Heap} (ty : TypeId) (ha : appendD P H st s x = some (r, H')) (hxt : P.underlying xt = some d) (hd : notInt d = true)
    (hs : V ρ s s') (hx : V ρ x x') : ∃ ρ' r' w', (Builtin.append_ #[st, xt] ty #[s', x']).run P w = .ok r' w' ∧ Post P ρ H w ρ' H' w' ∧ V ρ' r r' := by
  unfold appendD at ha
  simp only [Option.bind_eq_some_iff] at ha
  obtain ⟨elem, he, size, hsz, bytes, hby, z, hze, ⟨n, l⟩, hnew, ha⟩ := ha
  have hst := sliceElem_some he
  obtain ⟨i, hi, hisz, hiby, hiz⟩ := sizes_of hsz hby hze
  obtain ⟨l', hl, hso⟩ := srcNew_ok h hx hnew
  have hln : l.length = n * size := by rw [hl.length, hso.size]
  subst hisz hiby
  simp only at ha
  split at ha
  · -- append to nil
    rename_i k c
    split at ha
    · rename_i hc
      simp only [Bool.and_eq_true, beq_iff_eq, bne_iff_ne, decide_eq_true_eq] at hc
      obtain ⟨⟨⟨⟨rfl, rfl⟩, hs0⟩, hroom⟩, hzs⟩ := hc
      have hs' : s' = .slice none 0 0 := hs.eq_of_flat rfl
      subst hs'
      split at ha
      · rename_i hn0
        simp only [beq_iff_eq] at hn0
        subst hn0
        injection (Option.some.inj ha) with e1 e2
        subst e1 e2
        refine ⟨ρ, .slice none 0 0, w, ?_, .refl h, hs⟩
        have hlen0 := hso.len w
        have hc0 := hso.cells w rfl
        unfold Builtin.append_
        simp only [List.getElem?_toArray, List.getElem?_cons_zero, List.getElem?_cons_succ, Sem.run_bind, run_underlying hst, run_sizeP hsz, run_underlying hxt, Result.andThen_ok, Sem.run_pure]
        cases d <;> first
          | (simp [notInt] at hd; done)
          | simp [hlen0, hc0]
      · rename_i hn0
        simp only [beq_iff_eq] at hn0
        injection (Option.some.inj ha) with e1 e2
        subst e1 e2
        obtain ⟨m, hm, hrun⟩ := run_app_grow (sLen := 0) (sCap := 0) (base := none) (olds := []) hst hxt hd hi hiz hso (by omega) ty (fun w2 _ => run_firstCells_none _ _ _ _ _) (by simpa using hroom)
        simp only [Nat.zero_add] at hrun hm
        have hpost0 := Post.drew h
        have hle : ρ.Le (ρ.put H.length l.length ⟨w.heap.size, 0, m * i.size, i.size⟩) := .put (rho_none h _)
        have hmi : n * i.size ≤ m * i.size := Nat.mul_le_mul_right _ hm
        refine ⟨_, _, _, hrun, hpost0.trans (by
          rw [rowD_eq]
          refine Post.new hpost0.rel _ _ l.length ⟨w.heap.size, 0, m * i.size, i.size⟩ rfl ?_ (fun _ _ _ e => by cases e) (fun _ e => by cases e)
          intro cs ty2 rw2 lo ver e
          injection e with e1 e2 e3 e4 e5
          subst e1 e2 e3 e4 e5
          refine ⟨rfl, Nat.le_refl _, hsz, by simp only; omega, _, elem, (0, 0), heap_alloc_new _ _, ?_, fun _ => rfl, fun _ j c hj _ hcc => ?_⟩
          · simp only [Array.empty_append, Array.size_append, List.size_toArray, size_zeroCells, hzs, ← hl.length, hln]
            rw [← Nat.add_mul]; congr 1; omega
          · obtain ⟨c', hc', hr⟩ := hl.get j c hcc
            refine ⟨c', ?_, hr.mono hle⟩
            have hj' : j < l'.length := (List.getElem?_eq_some_iff.1 hc').1
            simp only [Array.empty_append, Place.at, Int.add_zero, Int.toNat_natCast]
            rw [Array.getElem?_append_left (by simpa using hj')]
            simpa using hc'), ?_⟩
        have := C0.slice (ρ := ρ.put H.length l.length ⟨w.heap.size, 0, m * i.size, i.size⟩) (A := H.length) (i := 0) (e := l.length) (n := n) (c' := m) (Rho.put_same _ _ _ _) (by simp) (by simp [hln]) hm (.inl ⟨rfl, by simp [Place.at]⟩)
        exact .v1 (.c1 (.c0 (by simpa [Place.at] using this)))
    · cases ha
  · -- append to a row
    rename_i A j e k c
    obtain ⟨p, c', a, hp, h0, hjk, hkc, hsz2, hck, rfl⟩ := hs.slice_inv
    split at ha
    · rename_i cs ty2 lo ver hg
      split at ha
      · rename_i hc
        simp only [Bool.and_eq_true, beq_iff_eq, bne_iff_ne, decide_eq_true_eq] at hc
        obtain ⟨⟨⟨⟨⟨⟨hs0, hroom⟩, hzs⟩, hty⟩, hjke⟩, rfl⟩, hlo⟩ := hc
        injection (Option.some.inj ha) with e1 e2
        subst e1 e2
        obtain ⟨_, hk, hfit, cur, ty', fr, hw, hcur, hfr, hcell⟩ := (h.cells _ _ _ _ _ _ hg).2 _ _ hp
        obtain rfl := hfr rfl
        have hpk : p.k = i.size := by rw [hty] at hk; exact (Option.some.inj hk).symm
        rw [appL_eq]
        by_cases hin : k + n ≤ c'
        · -- in place
          have hcapp : p.at j + (k + n) * i.size ≤ cur.size ∧ (a = ⟨p.b, p.at j, none⟩ ∨ (k + n = 0 ∧ c' = 0)) := by
            rcases hsz2 with ⟨ha, hs2⟩ | ⟨hk0, hc0⟩
            · refine ⟨?_, .inl ha⟩
              rw [hcur]
              have : (k + n) * i.size ≤ c' * p.k := by rw [hpk]; exact Nat.mul_le_mul_right _ hin
              omega
            · have : k + n = 0 := by omega
              refine ⟨?_, .inr ⟨this, hc0⟩⟩
              rw [this, hcur]; unfold Place.at; omega
          have hats : p.at j + k * i.size = p.at cs.length := by unfold Place.at; omega
          have hl' := hl.length
          have hcap : p.at j + (k + n) * i.size ≤ cur.size := hcapp.1
          have hcap' : p.at cs.length + l'.length ≤ cur.size := by
            rw [Nat.add_mul] at hcap; omega
          have hst2 := run_storeCells_at P p.b (p.at cs.length) ty' l' 0 cur w hw (by simpa using hcap') hl.oneCells
          simp only [Nat.add_zero] at hst2
          have hstw : (storeCells (a.add (k * i.size)) l').run P w = .ok () (w.setRow p.b (cur.toList.take (p.at cs.length) ++ l' ++ cur.toList.drop (p.at cs.length + l'.length)).toArray) := by
            rcases hcapp.2 with rfl | ⟨h00, _⟩
            · rw [addr_add, hats]; exact hst2
            · have : l' = [] := List.length_eq_zero_iff.1 (by
                have : n = 0 := by omega
                subst this; rw [← hl', hln]; simp)
              subst this
              simp only [storeCells] at hst2 ⊢
              exact hst2
          have hrun := run_app_room (P := P) (w := w) (a := a) (sLen := k) (sCap := c') hst hxt hd hsz hso hin ty hstw
          have hseg : ∀ (q : Nat), ((cur.toList.take (p.at cs.length) ++ l' ++ cur.toList.drop (p.at cs.length + l'.length)).toArray)[q]? = if p.at cs.length ≤ q ∧ q < p.at cs.length + l'.length then l'[q - p.at cs.length]? else cur[q]? := fun q => by
            have := seg_get cur.toList l' (p.at cs.length) q (by simpa using hcap')
            simpa using this
          have hsize : ((cur.toList.take (p.at cs.length) ++ l' ++ cur.toList.drop (p.at cs.length + l'.length)).toArray).size = cur.size := by
            simp; omega
          revert hrun
          generalize (cur.toList.take (p.at cs.length) ++ l' ++ cur.toList.drop (p.at cs.length + l'.length)).toArray = new at hseg hsize
          intro hrun
          have hcsd : 0 ≤ (cs.length : Int) + p.d := by omega
          by_cases hl0 : l = []
          · subst hl0
            have hn0 : n = 0 := by
              rcases Nat.eq_zero_or_pos n with h1 | h1
              · exact h1
              · have := Nat.mul_pos h1 (Nat.pos_of_ne_zero hs0); simp at hln; omega
            subst hn0
            have hl0' : l' = [] := List.length_eq_zero_iff.1 (by rw [← hl']; rfl)
            subst hl0'
            refine ⟨ρ, _, _, hrun, ?_, ?_⟩
            · have hnew : new = cur := by
                apply Array.ext_getElem?
                intro q; rw [hseg]; rw [if_neg (by simp)]
              rw [hnew, setRow_self w p.b cur ty' (0, 0) hw, List.append_nil]
              have hsame : hset H A (.cells cs ty2 true lo ver) = H := hset_self hg
              rw [hsame]
              exact .refl h
            · rw [hck, hpk] at hs; simpa using hs
          · have hno : ρ A (cs.length + l.length) = none := by
              cases hh : ρ A (cs.length + l.length) with
              | none => rfl
              | some q => have := ((h.cells _ _ _ _ _ _ hg).2 _ _ hh).le; have := List.length_pos_iff.2 hl0; omega
            have hle : ρ.Le (ρ.put A (cs.length + l.length) p) := .put hno
            refine ⟨ρ.put A (cs.length + l.length) p, _, _, hrun, ?_, ?_⟩
            · refine Post.upd h _ hg rfl hp hle (fun B f q hq => ?_) (setRow_size _ _ _) (fun b hb => setRow_other _ _ _ _ hb) rfl rfl rfl ?_ (fun _ _ _ e => by cases e) (fun _ e => by cases e) (fun _ _ _ => .inl rfl)
                (fun r hr => by rw [hw] at hr; cases hr)
              · by_cases hh : B = A ∧ f = cs.length + l.length
                · obtain ⟨rfl, rfl⟩ := hh; rw [Rho.put_same] at hq; obtain rfl := Option.some.inj hq; exact .inr ⟨rfl, rfl, rfl⟩
                · rw [Rho.put_ne hh] at hq; exact .inl hq
              · intro cs2 ty3 rw2 lo2 ver2 e
                injection e with e1 e2 e3 e4 e5
                subst e1 e2 e3 e4 e5
                refine ⟨⟨p, by rw [List.length_append, Rho.put_same]⟩, fun f q hq => ?_⟩
                -- what the new row holds
                have hnewcell : ∀ (f : Nat), (f ≤ cs.length ∨ True) → ∀ (m : Nat) cc, 0 ≤ (m : Int) + p.d → (cs ++ l)[m]? = some cc → ∃ c', new[p.at m]? = some c' ∧ C1 ρ cc c' := fun _ _ m cc hm0 hcc => by
                  rw [hseg]
                  by_cases hm : m < cs.length
                  · rw [List.getElem?_append_left hm] at hcc
                    obtain ⟨c', hc', hr⟩ := hcell hlo m cc hm hm0 hcc
                    exact ⟨c', by rw [if_neg (by unfold Place.at; omega)]; exact hc', hr⟩
                  · rw [List.getElem?_append_right (by omega)] at hcc
                    obtain ⟨c', hc', hr⟩ := hl.get _ _ hcc
                    have hlt := (List.getElem?_eq_some_iff.1 hc').1
                    have hatm : p.at m = p.at cs.length + (m - cs.length) := by unfold Place.at; omega
                    exact ⟨c', by rw [if_pos (by omega), hatm]; simpa using hc', hr⟩
                by_cases hh : f = cs.length + l.length
                · subst hh
                  rw [Rho.put_same] at hq
                  obtain rfl := Option.some.inj hq
                  refine ⟨by simp, hk, by unfold Place.at at hcap'; omega, new, ty', (0, 0), setRow_heap w p.b cur new ty' (0, 0) hw, by rw [hsize, hcur], fun _ => rfl, fun _ m cc _ hm0 hcc => ?_⟩
                  obtain ⟨c', a, b⟩ := hnewcell 0 (.inr trivial) m cc hm0 hcc
                  exact ⟨c', a, b.mono hle⟩
                · rw [Rho.put_ne (by simp [hh])] at hq
                  obtain ⟨q1, q2, q3, qcur, qty, qfr, q4, q5, q6, q7⟩ := (h.cells _ _ _ _ _ _ hg).2 _ _ hq
                  by_cases hqb : q.b = p.b
                  · have hqd : q.d = p.d := (h.excl _ _ _ _ _ _ _ hp hq hqb.symm hg rfl).2
                    rw [hqb, hw] at q4
                    injection (Option.some.inj q4) with e1 e2 e3
                    subst e1 e2 e3
                    refine ⟨by simp; omega, q2, q3, new, ty', (0, 0), by rw [hqb]; exact setRow_heap w p.b cur new ty' (0, 0) hw, by rw [hsize]; exact q5, fun _ => rfl, fun _ m cc _ hm0 hcc => ?_⟩
                    have hat : q.at m = p.at m := by unfold Place.at; rw [hqd]
                    obtain ⟨c', a, b⟩ := hnewcell 0 (.inr trivial) m cc (by rw [← hqd]; exact hm0) hcc
                    exact ⟨c', by rw [hat]; exact a, b.mono hle⟩
                  · exact (CellsAt.world hle (setRow_other _ _ _ _ hqb) ⟨q1, q2, q3, qcur, qty, qfr, q4, q5, q6, q7⟩).grow l
            · have hke : k * i.size + n * i.size = (k + n) * i.size := by rw [Nat.add_mul]
              have := C0.slice (ρ := ρ.put A (cs.length + l.length) p) (A := A) (i := j) (e := cs.length + l.length) (n := k + n) (c' := c') (p := p) (Rho.put_same _ _ _ _) h0 (by rw [hpk, ← hke]; omega) hin (hsz2.imp id fun q => ⟨by omega, q.2⟩)
              rw [hpk] at this
              exact .v1 (.c1 (.c0 this))
        · -- a new row
          obtain ⟨p1, p2, p3, cur2, ty3, fr3, p4, p5, p6, p7⟩ := (h.cells _ _ _ _ _ _ hg).2 _ _ hp
          have hca : cellsAt H A j cs.length (k * i.size) = some ((cs.drop j).take (k * i.size)) := by
            unfold cellsAt
            rw [hg]
            simp only [Bool.and_eq_true, decide_eq_true_eq]
            rw [if_pos (by omega)]
          obtain ⟨olds, hold, hollen, _, hofc⟩ := firstCells_ok (k := k) (c := c') h hca hp h0 (hsz2.imp And.left And.left)
          obtain ⟨m, hm, hrun⟩ := run_app_grow (sLen := k) (sCap := c') (base := some a) (olds := olds) hst hxt hd hi hiz hso (by omega) ty hofc hroom
          have hpost0 := Post.drew h
          have hl' := hl.length
          have hol' := hold.length
          have hkm : (k + n) * i.size ≤ m * i.size := Nat.mul_le_mul_right _ hm
          rw [Nat.add_mul] at hkm
          have hn0 : n ≠ 0 := by omega
          have hl0 : l ≠ [] := by
            intro hl0; subst hl0
            have := Nat.mul_pos (Nat.pos_of_ne_zero hn0) (Nat.pos_of_ne_zero hs0); simp at hln; omega
          have hno : ρ A (cs.length + l.length) = none := by
            cases hh : ρ A (cs.length + l.length) with
            | none => rfl
            | some q => have := ((h.cells _ _ _ _ _ _ hg).2 _ _ hh).le; have := List.length_pos_iff.2 hl0; omega
          have hle : ρ.Le (ρ.put A (cs.length + l.length) ⟨w.heap.size, -(j : Int), m * i.size, i.size⟩) := .put hno
          refine ⟨_, _, _, hrun, hpost0.trans (Post.regrow hpost0.rel l _ ⟨w.heap.size, -(j : Int), m * i.size, i.size⟩ hg hl0 rfl ?_), ?_⟩
          · refine ⟨by simp, hty ▸ rfl, by simp only; omega, _, elem, (0, 0), heap_alloc_new _ _, ?_, fun _ => rfl, fun _ q cc hq hq0 hcc => ?_⟩
            · simp only [Array.size_append, List.size_toArray, size_zeroCells, hzs, ← hl', ← hol', hollen, hln]
              rw [← Nat.add_assoc, ← Nat.add_mul, ← Nat.add_mul]; congr 1; omega
            · simp only at hq0
              have hat : Place.at ⟨w.heap.size, -(j : Int), m * i.size, i.size⟩ q = q - j := by unfold Place.at; simp only; omega
              rw [hat]
              by_cases hqc : q < cs.length
              · rw [List.getElem?_append_left hqc] at hcc
                have : ((cs.drop j).take (k * i.size))[q - j]? = some cc := by
                  rw [List.getElem?_take_of_lt (by omega), List.getElem?_drop]
                  have : j + (q - j) = q := by omega
                  rw [this]; exact hcc
                obtain ⟨c1, hc1, hr⟩ := hold.get _ _ this
                have hlt := (List.getElem?_eq_some_iff.1 hc1).1
                refine ⟨c1, ?_, hr.mono hle⟩
                rw [Array.getElem?_append_left (by simpa using hlt)]
                simpa using hc1
              · rw [List.getElem?_append_right (by omega)] at hcc
                obtain ⟨c1, hc1, hr⟩ := hl.get _ _ hcc
                have hlt := (List.getElem?_eq_some_iff.1 hc1).1
                refine ⟨c1, ?_, hr.mono hle⟩
                rw [Array.getElem?_append_right (by simp; omega), Array.getElem?_append_left (by simp; omega)]
                simp only [List.size_toArray, List.getElem?_toArray]
                have : q - j - olds.length = q - cs.length := by omega
                rw [this]; exact hc1
          · have := C0.slice (ρ := ρ.put A (cs.length + l.length) ⟨w.heap.size, -(j : Int), m * i.size, i.size⟩) (A := A) (i := j) (e := cs.length + l.length) (n := k + n) (c' := m) (Rho.put_same _ _ _ _) (by simp only; omega) (by simp only [Nat.add_mul]; omega) hm (.inl ⟨rfl, by unfold Place.at; simp only; omega⟩)
            refine .v1 (.c1 (.c0 ?_))
            have e0 : Place.at ⟨w.heap.size, -(j : Int), m * i.size, i.size⟩ j = 0 := by unfold Place.at; simp only; omega
            rw [e0] at this
            exact this
      · cases ha
    · cases ha
  · cases ha
end
end Go.Ds
/-
  Ds against the model: copy, cuts, make, and every operation that calls nothing.
-/
namespace Go.Ds
section
variable {P : Program} {ρ : Rho} {H : Heap} {w : World}

theorem srcD_ok (h : HRel P ρ H w) {size n : Nat} {l : List Value} {x x' : Value} (hx : V ρ x x') (hn : srcD H size n x = some l) :
    ∃ l', All2 (C1 ρ) l l' ∧ (Builtin.firstCells size n x').run P w = .ok l'.toArray w := by
  unfold srcD at hn
  split at hn
  · split at hn
    · obtain rfl := Option.some.inj hn
      rcases hx.slice_any with ⟨_, _, _, rfl⟩ | ⟨A, j, e, p, c', a, hh, _⟩
      · exact ⟨[], trivial, run_firstCells_none _ _ _ _ _⟩
      · cases hh
    · cases hn
  · rename_i A j e k c
    split at hn
    · rename_i hnk
      obtain ⟨p, c', a, hp, h0, _, _, ha, _, rfl⟩ := hx.slice_inv
      obtain ⟨l', hall, _, _, hrun⟩ := firstCells_ok (k := k) (c := c') h hn hp h0 (ha.imp And.left (fun q => by have := q.1; omega))
      exact ⟨l', hall, hrun w rfl⟩
    · cases hn
  · rename_i b
    have hx' : x' = .string b := hx.eq_of_flat rfl
    subst hx'
    split at hn
    · rename_i hc
      simp only [Bool.and_eq_true, beq_iff_eq, decide_eq_true_eq] at hc
      obtain rfl := Option.some.inj hn
      refine ⟨_, All2.same fun v hv => ?_, ?_⟩
      · simp only [List.mem_map] at hv
        obtain ⟨u, _, rfl⟩ := hv
        exact .of_scalar rfl
      · simp only [Builtin.firstCells, Sem.run_pure]
        congr 1
        apply Array.ext'
        simp [ByteArray.data_extract]
    · cases hn
  · cases hn

theorem lenNat_ok {x x' : Value} (hx : V ρ x x') {m : Nat} (h : lenNat x = some m) : (Builtin.lenOf x').run P w = .ok m w := by
  unfold lenNat at h
  split at h
  · rename_i a n c
    obtain rfl := Option.some.inj h
    rcases hx.slice_any with ⟨_, hn, _, rfl⟩ | ⟨A, j, e, p, c', a, hh, _, _, _, _, _, _, rfl⟩
    · simp [Builtin.lenOf, hn]
    · simp [Builtin.lenOf]
  · rename_i s
    obtain rfl := Option.some.inj h
    have : x' = .string s := hx.eq_of_flat rfl
    subst this
    simp [Builtin.lenOf]
  · cases h

theorem copyD_ok (h : HRel P ρ H w) {dt xt : TypeId} {d d' x x' r : Value} {H' : Heap} (ty : TypeId) (hc : copyD P H dt d x = some (r, H')) (hd : V ρ d d') (hx : V ρ x x') :
    ∃ r' w', (Builtin.copy_ #[dt, xt] ty #[d', x']).run P w = .ok r' w' ∧ Post P ρ H w ρ H' w' ∧ V ρ r r' := by
  unfold copyD at hc
  simp only [Option.bind_eq_some_iff] at hc
  obtain ⟨elem, he, size, hsz, m, hm, hc⟩ := hc
  have hst := sliceElem_some he
  have hlen : (Builtin.lenOf x').run P w = .ok m w := lenNat_ok hx hm
  split at hc
  · rename_i k c
    split at hc
    · rename_i hk
      simp only [beq_iff_eq] at hk
      subst hk
      injection (Option.some.inj hc) with e1 e2
      subst e1 e2
      rcases hd.slice_any with ⟨_, _, _, rfl⟩ | ⟨A, j, e, p, c', a, hh, _⟩
      · refine ⟨goInt 0, w, ?_, .refl h, .of_flat rfl⟩
        have hf : (Builtin.firstCells size 0 x').run P w = .ok #[] w := by
          unfold lenNat at hm
          split at hm
          · rename_i a n c
            rcases hx.slice_any with ⟨_, _, _, rfl⟩ | ⟨A, j, e, p, c', a, hh, _, _, _, _, _, _, rfl⟩
            · exact run_firstCells_none _ _ _ _ _
            · exact run_firstCells_some w size 0 _ _ _ [] (by simp) (fun j v hv => by simp at hv)
          · rename_i s
            have : x' = .string s := hx.eq_of_flat rfl
            subst this
            simp [Builtin.firstCells]
          · cases hm
        unfold Builtin.copy_
        simp [run_underlying hst, hlen, run_sizeP hsz, hf]
      · cases hh
    · cases hc
  · rename_i A i e k c
    obtain ⟨p, c', a, hp, h0, _, _, ha, _, rfl⟩ := hd.slice_inv
    split at hc
    · rename_i hn0
      simp only [beq_iff_eq] at hn0
      injection (Option.some.inj hc) with e1 e2
      subst e1 e2
      refine ⟨goInt 0, w, ?_, .refl h, .of_flat rfl⟩
      have hf : (Builtin.firstCells size 0 x').run P w = .ok #[] w := by
        unfold lenNat at hm
        split at hm
        · rcases hx.slice_any with ⟨_, _, _, rfl⟩ | ⟨A, j, e, p, c', a, hh, _, _, _, _, _, _, rfl⟩
          · exact run_firstCells_none _ _ _ _ _
          · exact run_firstCells_some w size 0 _ _ _ [] (by simp) (fun j v hv => by simp at hv)
        · rename_i s
          have : x' = .string s := hx.eq_of_flat rfl
          subst this
          simp [Builtin.firstCells]
        · cases hm
      have hn0' : min m k = 0 := hn0
      unfold Builtin.copy_
      simp [run_underlying hst, hlen, run_sizeP hsz, hn0', hf, storeCells]
    rename_i hn0
    simp only [beq_iff_eq] at hn0
    have ha' : a = ⟨p.b, p.at i, none⟩ := by
      rcases ha with ha | ha
      · exact ha.1
      · exact absurd (by rw [ha.1]; exact Nat.min_zero m) hn0
    subst ha'
    simp only [Option.bind_eq_some_iff] at hc
    obtain ⟨l, hl, hc⟩ := hc
    obtain ⟨l', hall, hf⟩ := srcD_ok h hx hl
    split at hc
    · rename_i cs ty2 lo ver hg
      split at hc
      · rename_i hcond
        simp only [Bool.and_eq_true, beq_iff_eq, decide_eq_true_eq] at hcond
        obtain ⟨⟨rfl, hin⟩, hlo⟩ := hcond
        injection (Option.some.inj hc) with e1 e2
        subst e1 e2
        obtain ⟨w', hrun, hpost⟩ := write_ok h (ver + 1) hg hp h0 hall hin hlo
        refine ⟨_, w', ?_, hpost, .of_flat rfl⟩
        unfold Builtin.copy_
        simp [run_underlying hst, hlen, run_sizeP hsz, hf, hrun]
      · cases hc
    · cases hc
  · cases hc

theorem clearD_ok (h : HRel P ρ H w) {t : TypeId} {x x' r : Value} {H' : Heap} (ty : TypeId) (hc : clearD P H t x = some (r, H')) (hx : V ρ x x') :
    ∃ r' w', (Builtin.clear_ #[t] ty #[x']).run P w = .ok r' w' ∧ Post P ρ H w ρ H' w' ∧ V ρ r r' := by
  unfold clearD at hc
  simp only [Option.bind_eq_some_iff] at hc
  obtain ⟨elem, he, z, hz, hc⟩ := hc
  have hst := sliceElem_some he
  have ht : V ρ (.tuple #[]) (.tuple #[]) := .tuple trivial
  split at hc
  · injection (Option.some.inj hc) with e1 e2
    subst e1 e2
    rcases hx.slice_any with ⟨_, _, _, rfl⟩ | ⟨A, j, e, p, c', a, hh, _⟩
    · refine ⟨_, w, ?_, .refl h, ht⟩
      unfold Builtin.clear_
      simp [run_underlying hst]
    · cases hh
  · rename_i A i e n c
    obtain ⟨p, c', a, hp, h0, _, _, ha, _, rfl⟩ := hx.slice_inv
    split at hc
    · rename_i hn0
      simp only [beq_iff_eq] at hn0
      subst hn0
      injection (Option.some.inj hc) with e1 e2
      subst e1 e2
      refine ⟨_, w, ?_, .refl h, ht⟩
      unfold Builtin.clear_
      simp [run_underlying hst]
    · rename_i hn0
      simp only [beq_iff_eq] at hn0
      have ha' : a = ⟨p.b, p.at i, none⟩ := by
        rcases ha with ha | ha
        · exact ha.1
        · exact absurd ha.1 hn0
      subst ha'
      split at hc
      · rename_i cs ty2 lo ver hg
        split at hc
        · rename_i hcond
          simp only [Bool.and_eq_true, beq_iff_eq, decide_eq_true_eq] at hcond
          obtain ⟨⟨⟨hsc, rfl⟩, hin⟩, hlo⟩ := hcond
          injection (Option.some.inj hc) with e1 e2
          subst e1 e2
          obtain ⟨w', hrun, hpost⟩ := write_ok h (ver + 1) hg hp h0 (.of_scalars hsc) hin hlo
          refine ⟨_, w', ?_, hpost, ht⟩
          unfold Builtin.clear_
          cases n with
          | zero => exact (hn0 rfl).elim
          | succ n => simp [run_underlying hst, run_zeroP hz, hrun]
        · cases hc
      · cases hc
  · cases hc

theorem natOf_ok {v v' : Value} {n : Nat} (hv : V ρ v v') (h : natOf v = some n) : ∃ k, v = .int k n ∧ v' = .int k n := by
  unfold natOf at h
  split at h
  · rename_i k m
    split at h
    · rename_i h0
      obtain rfl := Option.some.inj h
      have e : ((m.toNat : Nat) : Int) = m := Int.toNat_of_nonneg h0
      exact ⟨k, by rw [e], by rw [e]; exact hv.eq_of_flat rfl⟩
    · cases h
  · cases h

theorem bound_ok {k : IntKind} {n y : Nat} (h : n ≤ y) (code : BoundsCode) (w : World) : (Instr.sliceBound (.int k n) y code).run P w = .ok n w := by
  unfold Instr.sliceBound
  simp only [asIntOf, Sem.run_bind, Sem.run_pure, Result.andThen_ok]
  rw [if_pos (by omega)]
  simp

theorem sliceD_ok (h : HRel P ρ H w) {t : TypeId} {x x' r : Value} {lo lo' hi hi' : Option Value} (hs : sliceD P t x lo hi = some r) (hx : V ρ x x')
    (hlo : match lo, lo' with | none, none => True | some a, some b => V ρ a b | _, _ => False) (hhi : match hi, hi' with | none, none => True | some a, some b => V ρ a b | _, _ => False) :
    ∃ r', (Instr.sliceAt t x' lo' hi' none).run P w = .ok r' w ∧ V ρ r r' := by
  unfold sliceD at hs
  simp only [Option.bind_eq_some_iff] at hs
  obtain ⟨elem, he, size, hsz, hs⟩ := hs
  have hst := sliceElem_some he
  split at hs
  · rename_i A i e n c _
    simp only [Option.bind_eq_some_iff] at hs
    obtain ⟨hh, h1, ll, h2, hs⟩ := hs
    obtain ⟨p, c', a, hp, h0, hin, hnc, hsz2, hck, rfl⟩ := hx.slice_inv
    split at hs
    · rename_i hc
      simp only [Bool.and_eq_true, decide_eq_true_eq, beq_iff_eq] at hc
      obtain ⟨⟨hlh, hhn⟩, hcs⟩ := hc
      obtain rfl := Option.some.inj hs
      -- the element's size is the place's
      have hk : p.k = size := hck ▸ hcs
      have hbounds : (Instr.sliceBounds true n c' lo' hi' none).run P w = .ok (ll, hh, c') w := by
        unfold Instr.sliceBounds
        cases hi with
        | none =>
          cases hi' with
          | some _ => exact hhi.elim
          | none =>
            simp only at h1
            obtain rfl := Option.some.inj h1
            cases lo with
            | none =>
              cases lo' with
              | some _ => exact hlo.elim
              | none => simp only at h2; obtain rfl := Option.some.inj h2; simp
            | some a =>
              cases lo' with
              | none => exact hlo.elim
              | some b =>
                obtain ⟨k, rfl, rfl⟩ := natOf_ok hlo h2
                simp [bound_ok hlh]
        | some a =>
          cases hi' with
          | none => exact hhi.elim
          | some b =>
            obtain ⟨k, rfl, rfl⟩ := natOf_ok hhi h1
            have hb : hh ≤ c' := by omega
            cases lo with
            | none =>
              cases lo' with
              | some _ => exact hlo.elim
              | none => simp only at h2; obtain rfl := Option.some.inj h2; simp [bound_ok hb]
            | some a =>
              cases lo' with
              | none => exact hlo.elim
              | some b =>
                obtain ⟨k', rfl, rfl⟩ := natOf_ok hlo h2
                simp [bound_ok hlh, bound_ok hb]
      have hb1 : ll * size ≤ hh * size := Nat.mul_le_mul_right _ hlh
      have hb2 : hh * size ≤ n * size := Nat.mul_le_mul_right _ hhn
      have hb3 : n * size ≤ c' * size := Nat.mul_le_mul_right _ hnc
      have hb4 : (hh - ll) * size = hh * size - ll * size := Nat.sub_mul _ _ _
      have hb5 : (c' - ll) * size = c' * size - ll * size := Nat.sub_mul _ _ _
      rw [hk] at hin hsz2
      by_cases hm : c' = ll
      · refine ⟨.slice (some a) (hh - ll) (c' - ll), ?_, ?_⟩
        · unfold Instr.sliceAt Instr.slice
          simp only [Sem.run_bind, run_underlying hst, Result.andThen_ok, hbounds, run_sizeP hsz, Sem.run_pure]
          simp [hm]
        · have h1 : hh - ll = 0 := by omega
          have h2 : c' - ll = 0 := by omega
          rw [h1, h2]
          have := C0.slice (ρ := ρ) (A := A) (i := i + ll * size) (e := e) (n := 0) (c' := 0) (p := p) (a := a) hp (by omega) (by omega) (Nat.le_refl _) (.inr ⟨rfl, rfl⟩)
          rw [hk] at this
          exact .v1 (.c1 (.c0 this))
      · have ha : a = ⟨p.b, p.at i, none⟩ ∧ p.at i + c' * size ≤ p.sz := by
          rcases hsz2 with ha | ha
          · exact ha
          · omega
        obtain ⟨rfl, hsz3⟩ := ha
        refine ⟨.slice (some ⟨p.b, p.at i + ll * size, none⟩) (hh - ll) (c' - ll), ?_, ?_⟩
        · unfold Instr.sliceAt Instr.slice
          simp [run_underlying hst, hbounds, run_sizeP hsz, hm, addr_add]
        · have := C0.slice (ρ := ρ) (A := A) (i := i + ll * size) (e := e) (n := hh - ll) (c' := c' - ll) (p := p) (a := ⟨p.b, p.at (i + ll * size), none⟩) hp (by omega) (by rw [hk]; omega) (by omega) (.inl ⟨rfl, by rw [hk, at_add h0]; omega⟩)
          rw [at_add h0, hk] at this
          exact .v1 (.c1 (.c0 this))
    · cases hs
  · cases hs
end
end Go.Ds
/-
  Ds against the model: every operation that calls nothing.
-/
namespace Go.Ds
section
variable {P : Program} {ρ : Rho} {H : Heap} {w : World}

theorem addI_eq (a b : Int) : addI a b = a + b := by cases a <;> cases b <;> simp [addI]
theorem subI_eq (a b : Int) : subI a b = a - b := by
  cases a with
  | ofNat a => cases b with
    | ofNat b =>
      simp only [subI]
      cases h : Nat.ble b a with
      | true => have := Nat.le_of_ble_eq_true h; simp only [Int.ofNat_eq_natCast]; omega
      | false => have : ¬ b ≤ a := fun e => by rw [Nat.ble_eq_true_of_le e] at h; cases h
                 simp only [Int.ofNat_eq_natCast, Int.negSucc_eq]; omega
    | negSucc b => rfl
  | negSucc a => cases b <;> rfl
theorem blt_eq (a b : Nat) : Nat.blt a b = decide (a < b) := by
  by_cases h : a < b
  · rw [decide_eq_true h]; simpa [Nat.blt_eq] using h
  · rw [decide_eq_false h]; exact Bool.eq_false_iff.2 fun e => h (by simpa [Nat.blt_eq] using e)
theorem ltI_eq (a b : Int) : ltI a b = decide (a < b) := by
  cases a <;> cases b <;> simp only [ltI, blt_eq, Int.ofNat_eq_natCast, Int.negSucc_eq] <;> rw [Bool.eq_iff_iff] <;> simp <;> omega
theorem eqI_eq (a b : Int) : eqI a b = (a == b) := by
  cases a <;> cases b <;> simp only [eqI, Int.ofNat_eq_natCast, Int.negSucc_eq] <;> rw [Bool.eq_iff_iff] <;> simp <;> omega
theorem wrapI_eq (k : IntKind) (n : Int) : wrapI k n = k.wrap n := by
  unfold wrapI
  cases k with
  | i64 =>
    cases n with
    | ofNat m =>
      simp only [blt_eq]
      by_cases h : m < 9223372036854775808
      · rw [decide_eq_true h]; exact (IntWalk.i64_in _ (by simp only [Int.ofNat_eq_natCast]; omega)).symm
      · rw [decide_eq_false h]
    | negSucc m =>
      simp only [ltI_eq]
      by_cases h : Int.negSucc m < -9223372036854775808
      · rw [decide_eq_true h]
      · rw [decide_eq_false h]; exact (IntWalk.i64_in _ (by simp only [Int.negSucc_eq] at *; omega)).symm
  | u64 =>
    cases n with
    | ofNat m =>
      simp only [blt_eq]
      by_cases h : m < 18446744073709551616
      · rw [decide_eq_true h]; exact (IntWalk.u64_in _ (by simp only [Int.ofNat_eq_natCast]; omega)).symm
      · rw [decide_eq_false h]
    | negSucc m => rfl
  | _ => rfl

theorem binI_ok {op : BinOp} {k : IntKind} {a b : Int} {v : Value} (h : binI op k a b = some v) (t : TypeId) (x y : Operand) (w : World) :
    (do eqGuard op t x y (.int k a) (.int k b); binOp op t (.int k a) (.int k b) : Sem Value).run P w = .ok v w ∧ flat v = true := by
  cases op <;> simp only [binI, addI_eq, subI_eq, ltI_eq, eqI_eq, wrapI_eq, reduceCtorEq, Option.some.injEq] at h
  all_goals first
    | (subst h; refine ⟨?_, rfl⟩; simp [eqGuard, binOp, Op.intArith, Op.intCmp]; done)
    | (subst h; refine ⟨?_, rfl⟩; simp [eqGuard, binOp, Op.intCmp, bne]; done)
    | (subst h; refine ⟨?_, rfl⟩; simp [eqGuard, binOp, Op.intCmp]; rw [Bool.eq_iff_iff]; simp; done)
    | (by_cases h0 : b = 0
       · subst h0; simp at h
       · have e : (b == 0) = false := by simpa using h0
         rw [e] at h
         simp only [Option.some.injEq] at h
         subst h; refine ⟨?_, rfl⟩; simp [eqGuard, binOp, Op.intDiv, h0])

theorem plain_ok (h : HRel P ρ H w) {o : Oper} {l : List Value} {a : Act} (hV : ∀ x, x ∈ o.op.operands → V ρ (ev l x) (a.eval x)) (hsel : ∀ cs b, o.op ≠ .select cs b)
    {v : Value} {H' : Heap} (hp : plainD P o l H = some (v, H')) : OpOk P ρ H w ((execOp a.eval o).run P w) v H' := by
  unfold plainD at hp
  split at hp
  · rename_i hfl
    have heq : execOp a.eval o = execOp (ev l) o := execOp_congr o hsel fun x hx => by
      have hx' : x ∈ o.op.operands.toList := by simpa using hx
      simp only [List.all_eq_true] at hfl
      exact (hV x hx).eq_of_flat (hfl x hx')
    rw [heq]
    split at hp
    · rename_i v0 hr
      split at hp
      · rename_i hv0
        injection (Option.some.inj hp) with e1 e2
        subst e1 e2
        exact OpOk.pure h (pureRun_run _ hr w) (.of_flat hv0)
      · cases hp
    · cases hp
  · cases hp

theorem V.c0 {v v' : Value} (h : V ρ v v') (hc : isC0 v = true) : C0 ρ v v' := by
  cases h with
  | v1 h => cases h with
    | c1 h => cases h with
      | c0 h => exact h
      | _ => simp [isC0] at hc
    | agg h => simp [isC0] at hc
  | tuple h => simp [isC0] at hc

theorem V.bool_inv {b : Bool} {v' : Value} (h : V ρ (.bool b) v') : v' = .bool b := h.eq_of_flat rfl
theorem V.int_inv {k : IntKind} {n : Int} {v' : Value} (h : V ρ (.int k n) v') : v' = .int k n := h.eq_of_flat rfl

theorem fieldD_some {s : TypeId} {f : Nat} {fd : Field} (h : fieldD P s f = some fd) : ∃ fs, P.underlying s = some (.struct fs) ∧ fs[f]? = some fd := by
  unfold fieldD at h
  split at h
  · rename_i fs hu; exact ⟨fs, hu, h⟩
  · cases h

theorem All2.captured {l : List Value} {a : Act} : ∀ (xs : List Operand), (∀ x ∈ xs, V ρ (ev l x) (a.eval x)) → (∀ x ∈ xs, isC0 (ev l x) = true) → All2 (C0 ρ) (xs.map (ev l)) (xs.map a.eval)
  | [], _, _ => trivial
  | x :: xs, h1, h2 => ⟨(h1 x (by simp)).c0 (h2 x (by simp)), All2.captured xs (fun y hy => h1 y (by simp [hy])) fun y hy => h2 y (by simp [hy])⟩

theorem args_ok {l : List Value} {a : Act} : ∀ (xs : List Operand), (∀ x ∈ xs, V ρ (ev l x) (a.eval x)) → All2 (V ρ) (xs.map (ev l)) (xs.map a.eval)
  | [], _ => trivial
  | x :: xs, h1 => ⟨h1 x (by simp), args_ok xs fun y hy => h1 y (by simp [hy])⟩

theorem len_ok (h : HRel P ρ H w) {t : TypeId} {x x' r : Value} {d : TypeDesc} (hu : P.underlying t = some d) (hx : V ρ x x') (hl : lenD H x = some r)
    (hd : match d, x with | .slice _, .slice _ _ _ => True | .string, .string _ => True | .map _ _, .map _ => True | _, _ => False) (ty : TypeId) :
    (Builtin.len_ #[t] ty #[x']).run P w = .ok r w ∧ flat r = true := by
  unfold lenD at hl
  cases x with
  | slice o n c =>
    obtain rfl := Option.some.inj hl
    refine ⟨?_, rfl⟩
    cases d <;> try exact hd.elim
    rcases hx.slice_any with ⟨_, hn, _, rfl⟩ | ⟨A, j, e, p, c', a, hh, _, _, _, _, _, _, rfl⟩
    · simp [Builtin.len_, run_underlying hu, hn]
    · simp [Builtin.len_, run_underlying hu]
  | string s =>
    obtain rfl := Option.some.inj hl
    refine ⟨?_, rfl⟩
    cases d <;> try exact hd.elim
    obtain rfl := hx.eq_of_flat rfl
    simp [Builtin.len_, run_underlying hu]
  | map r0 =>
    cases d <;> try exact hd.elim
    cases r0 with
    | none =>
      obtain rfl := Option.some.inj hl
      obtain rfl := hx.eq_of_flat rfl
      exact ⟨by simp [Builtin.len_, run_underlying hu], rfl⟩
    | some A =>
      simp only at hl
      split at hl
      · rename_i es ck ver hg
        obtain rfl := Option.some.inj hl
        obtain ⟨p, es', hp, hw, hall⟩ := h.map _ _ _ _ hg
        have hx' : x' = .map (some p.b) := by
          cases hx with
          | v1 h1 => cases h1 with
            | c1 h1 => cases h1 with
              | c0 h1 => cases h1 with
                | flat h1 => simp [scalar] at h1
                | map hq => rw [hp] at hq; rw [Option.some.inj hq]
        subst hx'
        refine ⟨?_, rfl⟩
        have hg2 : (getObj p.b).run P w = .ok (.map es' ck) w := by simp [getObj, Sem.run, hw]
        have he : es'.size = es.length := by simpa using hall.length.symm
        simp [Builtin.len_, run_underlying hu, hg2, he]
      · cases hl
  | _ => cases hl

theorem OpOk.mem {ρ' : Rho} {res : Result Next} {v v' : Value} {H' : Heap} {w' : World} (hr : res = .ok (.value v') w') (hp : Post P ρ H w ρ' H' w') (hv : V ρ' v v') : OpOk P ρ H w res v H' :=
  ⟨ρ', v', _, w', hr, .inl rfl, hp, hv⟩

theorem V.ptr_some {ad : Addr} {v' : Value} (h : V ρ (.pointer (some ad)) v') : ∃ b, v' = .pointer (some b) := by
  cases h with
  | v1 h1 => cases h1 with
    | c1 h1 => cases h1 with
      | c0 h1 => cases h1 with
        | flat h1 => simp [scalar] at h1
        | ptr _ _ => exact ⟨_, rfl⟩

theorem V.fn_inv {f : FuncId} {b c : Array Value} {v' : Value} (h : V ρ (.func (.func f) b c) v') : ∃ b' c', v' = .func (.func f) b' c' ∧ All2 (C0 ρ) b.toList b'.toList ∧ All2 (C0 ρ) c.toList c'.toList := by
  cases h with
  | v1 h1 => cases h1 with
    | c1 h1 => cases h1 with
      | c0 h1 => cases h1 with
        | flat h1 => simp [scalar] at h1
      | fn ha hb => exact ⟨_, _, rfl, ha, hb⟩

theorem V.tuple_get {vs vs' : Array Value} (h : V ρ (.tuple vs) (.tuple vs')) (i : Nat) (r : Value) (hr : vs[i]? = some r) : ∃ r', vs'[i]? = some r' ∧ V1 ρ r r' := by
  cases h with
  | v1 h1 => cases h1 with
    | c1 h1 => cases h1 with
      | c0 h1 => cases h1 with
        | flat h1 => simp [scalar] at h1
  | tuple h1 =>
    obtain ⟨b, hb, hrel⟩ := h1.get i r (by simpa using hr)
    exact ⟨b, by simpa using hb, hrel⟩

theorem V.tuple_not {vs : Array Value} {v' : Value} (h : V ρ (.tuple vs) v') (hn : ∀ x, v' ≠ .tuple x := by intro x e; cases e) : False := by
  cases h with
  | v1 h1 => cases h1 with
    | c1 h1 => cases h1 with
      | c0 h1 => cases h1 with
        | flat h1 => simp [scalar] at h1
  | tuple h1 => exact hn _ rfl

theorem V.agg_inv {cs : Array Value} {v' : Value} (h : V ρ (.agg cs) v') : ∃ cs', v' = .agg cs' ∧ All2 (C1 ρ) cs.toList cs'.toList := by
  cases h with
  | v1 h1 => cases h1 with
    | c1 h1 => cases h1 with
      | c0 h1 => cases h1 with
        | flat h1 => simp [scalar] at h1
    | agg h1 => exact ⟨_, rfl, h1⟩

theorem All2.extract {α β : Type} {R : α → β → Prop} {l : List α} {m : List β} (h : All2 R l m) (i j : Nat) : All2 R (l.extract i j) (m.extract i j) := by
  refine All2.of_get (by simp [h.length]) fun k a hk => ?_
  simp only [List.extract_eq_take_drop] at hk ⊢
  by_cases hkj : k < j - i
  · rw [List.getElem?_take_of_lt hkj, List.getElem?_drop] at hk
    obtain ⟨b, hb, hr⟩ := h.get _ _ hk
    exact ⟨b, by rw [List.getElem?_take_of_lt hkj, List.getElem?_drop]; exact hb, hr⟩
  · rw [List.getElem?_take_eq_none (by omega)] at hk; cases hk

theorem isSlice_some {t : TypeId} (h : ((P.underlying t).map isSlice == some true) = true) : ∃ e, P.underlying t = some (.slice e) := by
  simp only [beq_iff_eq] at h
  obtain ⟨d, hd, hs⟩ := Option.map_eq_some_iff.1 h
  cases d <;> simp [isSlice] at hs
  exact ⟨_, hd⟩

theorem array2 {α : Type} {a : Array α} (h : a.size = 2) : ∃ x y, a = #[x, y] := by
  cases a with | mk l => match l, h with | [x, y], _ => exact ⟨x, y, rfl⟩

theorem array1 {α : Type} {a : Array α} (h : a.size = 1) : ∃ x, a = #[x] := by
  cases a with | mk l => match l, h with | [x], _ => exact ⟨x, rfl⟩

theorem made_one {z : Value} (n : Nat) {k : Nat} (hz : z.cells.size = k) : (if k = 1 then List.replicate n (z.cells[0]!) else (madeCells z.cells (n * k)).toList) = (madeCells z.cells (n * k)).toList := by
  split
  · rename_i h1
    subst h1
    simp only [madeCells, hz, Nat.mod_one, Nat.mul_one]
    apply List.ext_getElem?
    intro j
    simp only [List.getElem?_replicate, Array.getElem?_toList, Array.getElem?_map, Array.getElem?_range]
    split <;> simp
  · rfl

theorem bytes_bound {k b : Nat} (h : k * b ≤ 17592186044416) : (b : Int) * (k : Int) ≤ 281474976710656 := by
  have e : (b : Int) * (k : Int) = ((k * b : Nat) : Int) := by rw [Int.mul_comm]; simp
  rw [e]; omega

theorem makeSlice_ok (h : HRel P ρ H w) {dst : Option Tmp} {t type : TypeId} {n c : Operand} {pos : String} {after : Array Edge} {guard : Option (Nat × Bool)} {l : List Value} {a : Act} (h1 : V ρ (ev l n) (a.eval n)) (h2 : V ρ (ev l c) (a.eval c)) {v : Value} {H' : Heap}
    (hd : opD P ⟨dst, .makeSlice t n c, type, pos, after, guard⟩ l H = some (v, H')) : OpOk P ρ H w ((execOp a.eval ⟨dst, .makeSlice t n c, type, pos, after, guard⟩).run P w) v H' := by
  simp only [opD, Option.bind_eq_some_iff] at hd
  obtain ⟨elem, he, size, hs, bytes, hby, z, hz, hd⟩ := hd
  have hst := sliceElem_some he
  obtain ⟨i, hi, hisz, hiby, hiz⟩ := sizes_of hs hby hz
  subst hisz hiby
  split at hd
  · rename_i x y hx hy
    rw [hx] at h1; rw [hy] at h2
    split at hd
    · rename_i hc
      simp only [Bool.and_eq_true, decide_eq_true_eq, bne_iff_ne, beq_iff_eq] at hc
      obtain ⟨⟨⟨⟨⟨hfz, rfl⟩, h0⟩, hroom⟩, hs0⟩, hzs⟩ := hc
      obtain ⟨k, rfl⟩ := Int.eq_ofNat_of_zero_le h0
      obtain ⟨r1, r2⟩ := room_i64 hroom
      have hrun := run_make (P := P) w t elem i z hst hi hiz .i64 .i64 (k : Int) (k : Int) h0 (Int.le_refl _) (bytes_bound r2) (by omega)
      simp only [Int.toNat_natCast] at hrun hd
      injection (Option.some.inj hd) with e1 e2
      rw [made_one k hzs] at e1 e2
      subst e1 e2
      obtain ⟨ρ', hp, hv⟩ := newSlice_ok (len := k) h hs (zeros_ok (ρ := ρ) hfz (k * i.size)) (by simp)
      simp only [Array.toArray_toList] at hp
      change Post P ρ H w ρ' (rowD H elem (madeCells z.cells (k * i.size)).toList) (w.alloc (.cells (madeCells z.cells (k * i.size)) elem)) at hp
      exact OpOk.mem (by simp only [execOp, h1.int_inv, h2.int_inv, Sem.run_bind, hrun, Result.andThen_ok, Sem.run_pure]) hp hv
    · cases hd
  · cases hd

theorem buildSlice_ok (h : HRel P ρ H w) {dst : Option Tmp} {t len type : Nat} {parts : Array (Nat × Operand)} {pos : String} {after : Array Edge} {guard : Option (Nat × Bool)} {l : List Value} {a : Act}
    (hps : Parts ρ (parts.toList.map fun (i, x) => (i, ev l x)) (parts.toList.map fun (i, x) => (i, a.eval x))) {v : Value} {H' : Heap}
    (hd : opD P ⟨dst, .buildSlice t len parts, type, pos, after, guard⟩ l H = some (v, H')) : OpOk P ρ H w ((execOp a.eval ⟨dst, .buildSlice t len parts, type, pos, after, guard⟩).run P w) v H' := by
  simp only [opD, Option.bind_eq_some_iff] at hd
  obtain ⟨elem, he, size, hs, z, hz, hd⟩ := hd
  split at hd
  · rename_i hc
    simp only [Bool.and_eq_true, decide_eq_true_eq, bne_iff_ne, beq_iff_eq] at hc
    obtain ⟨⟨⟨⟨hfz, hall1⟩, hsmall⟩, hpos⟩, hzs⟩ := hc
    simp only [Option.map_eq_some_iff] at hd
    obtain ⟨cs, hb, hd⟩ := hd
    injection hd with e1 e2; subst e1 e2
    have hst := sliceElem_some he
    obtain ⟨i, hi, hisz⟩ := sizeP_some hs
    subst hisz
    have hiz : i.zero = some z := by unfold zeroP at hz; rw [hi] at hz; exact hz
    have hone : ∀ x ∈ (parts.toList.map fun (i, x) => (i, ev l x)), x.2.cells.toList.all oneCell = true := by
      simp only [List.all_eq_true] at hall1 ⊢; exact hall1
    obtain ⟨r', hr', hall⟩ := fill_ok _ _ _ hps hone _ _ _ (zeros_ok hfz _) hb
    have hsz : len * i.size = cs.toList.length := by
      have := fill_size _ _ _ _ hb; rw [Array.length_toList, this]; simp
    obtain ⟨ρ', hp, hv⟩ := newSlice_ok h hs hall hsz
    have hsm : ¬ len * i.size > 2 ^ 24 := Nat.not_lt.2 hsmall
    have hparts : (parts.map fun (i, x) => (i, a.eval x)).toList = (parts.toList.map fun (i, x) => (i, a.eval x)) := by simp
    have hrun := run_buildSlice (P := P) w t elem len (parts.map fun (i, x) => (i, a.eval x)) r' i z hst hi hiz hsm hpos (by rw [hparts]; exact hr')
    rw [Array.toArray_toList] at hp
    exact OpOk.mem (by simp only [execOp, Sem.run_bind, hrun, Result.andThen_ok, Sem.run_pure]) hp hv
  · cases hd

set_option maxHeartbeats 1000000 in
theorem opD_ok (h : HRel P ρ H w) {o : Oper} {l : List Value} {a : Act} (hV : ∀ x, x ∈ o.op.operands → V ρ (ev l x) (a.eval x)) {v : Value} {H' : Heap} (hd : opD P o l H = some (v, H')) :
    OpOk P ρ H w ((execOp a.eval o).run P w) v H' := by
  obtain ⟨dst, op, type, pos, after, guard⟩ := o
  simp only at hV
  cases op with
  | move x =>
    simp only [opD] at hd
    injection (Option.some.inj hd) with e1 e2; subst e1 e2
    exact OpOk.pure h rfl (hV x (by simp [Op.operands]))
  | assign x =>
    simp only [opD] at hd
    injection (Option.some.inj hd) with e1 e2; subst e1 e2
    exact OpOk.pure h rfl (hV x (by simp [Op.operands]))
  | pick c x y =>
    simp only [opD] at hd
    split at hd
    · rename_i t hc
      injection (Option.some.inj hd) with e1 e2; subst e1 e2
      have hcv := hV c (by simp [Op.operands])
      rw [hc] at hcv
      have := hcv.bool_inv
      refine OpOk.pure h (v' := if t then a.eval x else a.eval y) (by simp only [execOp]; rw [this]; cases t <;> simp [asBool]) ?_
      cases t
      · exact hV y (by simp [Op.operands])
      · exact hV x (by simp [Op.operands])
    · cases hd
  | alloc t =>
    simp only [opD, Option.bind_eq_some_iff] at hd
    obtain ⟨z, hz, hd⟩ := hd
    split at hd
    · rename_i hf
      obtain ⟨ρ', r', w', hr, hp, hv⟩ := new_ok h hd (.v1 (V1.of_flat hf))
      have hr2 : (Instr.alloc t true (.tuple #[])).run P w = .ok r' w' := by
        simp only [Instr.alloc, Sem.run_bind, run_zeroP hz, Result.andThen_ok]
        simpa using hr
      exact OpOk.mem (by simp only [execOp, Sem.run_bind, hr2, Result.andThen_ok, Sem.run_pure]) hp hv
    · cases hd
  | box t x =>
    simp only [opD] at hd
    obtain ⟨ρ', r', w', hr, hp, hv⟩ := new_ok h hd (hV x (by simp [Op.operands]))
    have hr2 : (Instr.box t (a.eval x)).run P w = .ok r' w' := hr
    exact OpOk.mem (by simp only [execOp, Sem.run_bind, hr2, Result.andThen_ok, Sem.run_pure]) hp hv
  | build t parts =>
    simp only [opD] at hd
    split at hd
    · rename_i hc
      simp only [Bool.and_eq_true, List.all_eq_true] at hc
      simp only [Option.map_eq_some_iff] at hd
      obtain ⟨cs, hb, hd⟩ := hd
      injection hd with e1 e2; subst e1 e2
      have hps := parts_ok parts.toList fun x hx => hV x.2 (by simp only [Op.operands, List.mem_toArray, List.mem_map]; exact ⟨x, hx, rfl⟩)
      obtain ⟨r', hr', hall⟩ := built_ok hps (fun x hx => by simp only [List.all_eq_true]; exact hc.2 x hx) (fun z hz => by have := hc.1; rw [hz] at this; simpa using this) hb
      have hparts : (parts.map fun (i, x) => (i, a.eval x)).toList = (parts.toList.map fun (i, x) => (i, a.eval x)) := by simp
      have hrun := run_build (P := P) w t (parts.map fun (i, x) => (i, a.eval x)) r' (by rw [hparts]; exact hr')
      exact OpOk.mem (by simp only [execOp, Sem.run_bind, hrun, Result.andThen_ok, Sem.run_pure]) (.refl h) (.v1 (.agg hall))
    · cases hd
  | buildSlice t len parts =>
    exact buildSlice_ok h (parts_ok parts.toList fun x hx => hV x.2 (by simp only [Op.operands, List.mem_toArray, List.mem_map]; exact ⟨x, hx, rfl⟩)) hd
  | makeSlice t n c =>
    have h1 := (hV n (by simp [Op.operands]))
    have h2 := (hV c (by simp [Op.operands]))
    exact makeSlice_ok h h1 h2 hd
  | load t x =>
    simp only [opD, Option.map_eq_some_iff] at hd
    obtain ⟨r, hl, hd⟩ := hd
    injection hd with e1 e2; subst e1 e2
    obtain ⟨r', hr, hv⟩ := load_ok h hl (hV x (by simp [Op.operands]))
    exact OpOk.mem (by simp only [execOp, Sem.run_bind, hr, Result.andThen_ok, Sem.run_pure]) (.refl h) hv
  | store t x y =>
    simp only [opD, Option.map_eq_some_iff] at hd
    obtain ⟨H1, hs, hd⟩ := hd
    injection hd with e1 e2; subst e1 e2
    obtain ⟨w', hr, hp⟩ := store_ok h hs (hV x (by simp [Op.operands])) (hV y (by simp [Op.operands]))
    exact ⟨ρ, undef, .skip, w', by simp only [execOp, Sem.run_bind, hr, Result.andThen_ok, Sem.run_pure], .inr ⟨rfl, rfl⟩, hp, .undef⟩
  | nilCheck x =>
    simp only [opD] at hd
    have hv := hV x (by simp [Op.operands])
    split at hd
    · rename_i ad hx
      injection (Option.some.inj hd) with e1 e2; subst e1 e2
      rw [hx] at hv
      obtain ⟨b, hb⟩ := hv.ptr_some
      rw [hb] at hv
      exact OpOk.mem (by simp only [execOp, hb, Sem.run_pure]) (.refl h) hv
    · rename_i f b c hx
      injection (Option.some.inj hd) with e1 e2; subst e1 e2
      rw [hx] at hv
      obtain ⟨b', c', hb, _⟩ := hv.fn_inv
      rw [hb] at hv
      exact OpOk.mem (by simp only [execOp, hb, Sem.run_pure]) (.refl h) hv
    · cases hd
  | fieldAddr s x f =>
    simp only [opD] at hd
    have hv := hV x (by simp [Op.operands])
    split at hd
    · rename_i A i e hx
      simp only [Option.bind_eq_some_iff] at hd
      obtain ⟨fd, hf, n, hn, hd⟩ := hd
      split at hd
      · cases hd
      · rename_i hn0
        simp only [beq_iff_eq] at hn0
        injection (Option.some.inj hd) with e1 e2; subst e1 e2
        rw [hx] at hv
        obtain ⟨p, hp, h0, hb⟩ := hv.ptr_inv
        obtain ⟨fs, hu, hfs⟩ := fieldD_some hf
        have hrun : (Instr.fieldAt s (a.eval x) f).run P w = .ok (.pointer (some ⟨p.b, p.at i + fd.offset, none⟩)) w := by
          unfold Instr.fieldAt
          simp only [Sem.run_bind, run_underlying hu, Result.andThen_ok, hfs, hb, Instr.sureAddr, Sem.run_pure, fieldPlace, run_sizeP hn]
          simp [hn0, addr_add]
        refine OpOk.mem (v' := .pointer (some ⟨p.b, p.at i + fd.offset, none⟩)) (by simp only [execOp, Sem.run_bind, hrun, Result.andThen_ok, Sem.run_pure]) (.refl h) ?_
        rw [← at_add h0]
        exact .v1 (.c1 (.c0 (.ptr hp (by omega))))
    · cases hd
  | indexAddr t x ix =>
    simp only [opD] at hd
    have hv := hV x (by simp [Op.operands])
    have hvi := hV ix (by simp [Op.operands])
    split at hd
    · rename_i elem A i e n c k j hu hx hi
      simp only [Option.bind_eq_some_iff] at hd
      obtain ⟨size, hs, hd⟩ := hd
      split at hd
      · rename_i hc
        simp only [Bool.and_eq_true, decide_eq_true_eq] at hc
        injection (Option.some.inj hd) with e1 e2; subst e1 e2
        rw [hx] at hv; rw [hi] at hvi
        obtain ⟨p, c', ad, hp, h0, hin, hnc, ha, hck, hb⟩ := hv.slice_inv
        obtain ⟨ha, hsz⟩ : ad = ⟨p.b, p.at i, none⟩ ∧ p.at i + c' * p.k ≤ p.sz := by
          rcases ha with ha | ha
          · exact ha
          · omega
        subst ha
        have hrun : (Instr.indexAt t (a.eval x) (a.eval ix)).run P w = .ok (.pointer (some ⟨p.b, p.at i + j.toNat * size, none⟩)) w := by
          unfold Instr.indexAt
          simp only [hb, hvi.int_inv, asIntOf, Sem.run_bind, Sem.run_pure, Result.andThen_ok, run_underlying hu]
          simp [hc, addr_add, run_sizeP hs]
        refine OpOk.mem (v' := .pointer (some ⟨p.b, p.at i + j.toNat * size, none⟩)) (by simp only [execOp, Sem.run_bind, hrun, Result.andThen_ok, Sem.run_pure]) (.refl h) ?_
        rw [← at_add h0]
        exact .v1 (.c1 (.c0 (.ptr hp (by
          have : 0 ≤ j.toNat * size := Nat.zero_le _
          omega))))
      · cases hd
    · rename_i n elem A i e k j hu hx hi
      simp only [Option.bind_eq_some_iff] at hd
      obtain ⟨size, hs, hd⟩ := hd
      split at hd
      · rename_i hc
        simp only [Bool.and_eq_true, decide_eq_true_eq] at hc
        injection (Option.some.inj hd) with e1 e2; subst e1 e2
        rw [hx] at hv; rw [hi] at hvi
        obtain ⟨p, hp, h0, hb⟩ := hv.ptr_inv
        have hrun : (Instr.indexAt t (a.eval x) (a.eval ix)).run P w = .ok (.pointer (some ⟨p.b, p.at i + j.toNat * size, none⟩)) w := by
          unfold Instr.indexAt
          simp only [hb, hvi.int_inv, asIntOf, Instr.sureAddr, Sem.run_bind, Sem.run_pure, Result.andThen_ok, run_underlying hu]
          simp [hc, addr_add, run_sizeP hs]
        refine OpOk.mem (v' := .pointer (some ⟨p.b, p.at i + j.toNat * size, none⟩)) (by simp only [execOp, Sem.run_bind, hrun, Result.andThen_ok, Sem.run_pure]) (.refl h) ?_
        rw [← at_add h0]
        exact .v1 (.c1 (.c0 (.ptr hp (by
          have : 0 ≤ j.toNat * size := Nat.zero_le _
          omega))))
      · cases hd
    · cases hd
  | extract t i =>
    simp only [opD] at hd
    have hv := hV t (by simp [Op.operands])
    split at hd
    · rename_i vs hx
      simp only [Option.map_eq_some_iff] at hd
      obtain ⟨r, hr, hd⟩ := hd
      injection hd with e1 e2; subst e1 e2
      rw [hx] at hv
      cases hva : a.eval t with
      | tuple vs' =>
        rw [hva] at hv
        obtain ⟨r', hr', hrel⟩ := hv.tuple_get i r hr
        exact OpOk.mem (by simp only [execOp, hva, Instr.extract, hr', Sem.run_bind, Sem.run_pure, Result.andThen_ok]) (.refl h) (.v1 hrel)
      | _ => rw [hva] at hv; exact hv.tuple_not.elim
    · cases hd
  | makeFunc fn first captured =>
    simp only [opD] at hd
    split at hd
    · rename_i f
      split at hd
      · rename_i hc
        injection (Option.some.inj hd) with e1 e2; subst e1 e2
        simp only [List.all_eq_true, Array.toList_append, List.mem_append] at hc
        have h1 : ∀ x ∈ first.toList, V ρ (ev l x) (a.eval x) := fun x hx => hV x (by simp [Op.operands]; exact .inl (by simpa using hx))
        have h2 : ∀ x ∈ captured.toList, V ρ (ev l x) (a.eval x) := fun x hx => hV x (by simp [Op.operands]; exact .inr (by simpa using hx))
        refine OpOk.mem (v' := .func (.func f) (first.map a.eval) (captured.map a.eval)) (by simp only [execOp, Instr.makeFunc, Sem.run_bind, Sem.run_pure, Result.andThen_ok]) (.refl h) (.v1 (.c1 (.fn ?_ ?_)))
        · simpa using All2.captured first.toList h1 fun x hx => hc x (.inl hx)
        · simpa using All2.captured captured.toList h2 fun x hx => hc x (.inr hx)
      · cases hd
    · cases hd
  | unOp op t x =>
    simp only [opD] at hd
    split at hd
    · rename_i b hx
      injection (Option.some.inj hd) with e1 e2; subst e1 e2
      have hv := hV x (by simp [Op.operands])
      rw [hx] at hv
      exact OpOk.mem (by simp only [execOp, hv.bool_inv, Op.unary, Sem.run_bind, Sem.run_pure, Result.andThen_ok]) (.refl h) (.of_flat rfl)
    · exact plain_ok h hV (by simp) hd
  | convert s t x => simp only [opD] at hd; exact plain_ok h hV (by simp) hd
  | index t x y => simp only [opD] at hd; exact plain_ok h hV (by simp) hd
  | makeInterface t x => simp only [opD] at hd; exact plain_ok h hV (by simp) hd
  | slice t x lo hi mx =>
    cases mx with
    | some _ => simp only [opD] at hd; cases hd
    | none =>
      simp only [opD] at hd
      split at hd
      · exact plain_ok h hV (by simp) hd
      · simp only [Option.map_eq_some_iff] at hd
        obtain ⟨r, hr, hd⟩ := hd
        injection hd with e1 e2; subst e1 e2
        obtain ⟨r', hrun, hv⟩ := sliceD_ok h (lo' := lo.map a.eval) (hi' := hi.map a.eval) hr (hV x (by simp [Op.operands]))
          (by cases lo with | none => trivial | some y => exact hV y (by simp [Op.operands]))
          (by cases hi with | none => trivial | some y => exact hV y (by simp [Op.operands]))
        exact OpOk.mem (by simp only [execOp, Option.map_none, Sem.run_bind, hrun, Result.andThen_ok, Sem.run_pure]) (.refl h) hv
  | field t x f =>
    simp only [opD] at hd
    split at hd
    · exact plain_ok h hV (by simp) hd
    · have hv := hV x (by simp [Op.operands])
      split at hd
      · rename_i cs hx
        simp only [Option.bind_eq_some_iff] at hd
        obtain ⟨fd, hf, hd⟩ := hd
        obtain ⟨fs, hu, hfs⟩ := fieldD_some hf
        rw [hx] at hv
        obtain ⟨cs', hb, hall⟩ := hv.agg_inv
        split at hd
        · rename_i hagg
          simp only [Option.map_eq_some_iff] at hd
          obtain ⟨n, hn, hd⟩ := hd
          injection hd with e1 e2; subst e1 e2
          have hrun : (Instr.field t (a.eval x) f).run P w = .ok (.agg (cs'.extract fd.offset (fd.offset + n))) w := by
            unfold Instr.field part
            simp only [Sem.run_bind, run_underlying hu, Result.andThen_ok, hfs, hb, asAgg, Sem.run_pure, run_isAggP hagg]
            simp [run_sizeP hn]
          refine OpOk.mem (v' := .agg (cs'.extract fd.offset (fd.offset + n))) (by simp only [execOp, Sem.run_bind, hrun, Result.andThen_ok, Sem.run_pure]) (.refl h) (.v1 (.agg ?_))
          simp only [Array.toList_extract]
          exact hall.extract _ _
        · rename_i hagg
          simp only [Option.map_eq_some_iff] at hd
          obtain ⟨r, hr, hd⟩ := hd
          injection hd with e1 e2; subst e1 e2
          obtain ⟨r', hr', hrel⟩ := hall.get fd.offset r (by simpa using hr)
          have hr2 : cs'[fd.offset]? = some r' := by simpa using hr'
          have hrun : (Instr.field t (a.eval x) f).run P w = .ok r' w := by
            unfold Instr.field part
            simp only [Sem.run_bind, run_underlying hu, Result.andThen_ok, hfs, hb, asAgg, Sem.run_pure, run_isAggP hagg]
            simp [hr2]
          exact OpOk.mem (by simp only [execOp, Sem.run_bind, hrun, Result.andThen_ok, Sem.run_pure]) (.refl h) (.v1 (.c1 hrel))
        · cases hd
      · cases hd
  | binOp op t x y yt =>
    have hvx := hV x (by simp [Op.operands])
    have hvy := hV y (by simp [Op.operands])
    simp only [opD] at hd
    split at hd
    · rename_i ad n c hx hy
      split at hd
      · rename_i hc
        injection (Option.some.inj hd) with e1 e2; subst e1 e2
        rw [hx] at hvx; rw [hy] at hvy
        obtain ⟨elem, hu⟩ := isSlice_some hc
        have hy' : a.eval y = .slice none 0 0 := hvy.eq_of_flat rfl
        rcases hvx.slice_any with ⟨hh, _⟩ | ⟨A, j, e, p, c', ad2, hh, _, _, _, _, _, _, hx'⟩
        · cases hh
        · have hrun : (do eqGuard .eql t x y (a.eval x) (a.eval y); binOp .eql t (a.eval x) (a.eval y) : Sem Value).run P w = .ok (.bool false) w := by
            rw [hx', hy']
            simp [eqGuard, binOp, run_equal_slice_nil w t elem (some ad2) n c' hu]
          simp only [Sem.run_bind] at hrun
          exact OpOk.mem (v' := .bool false) (by simp only [execOp, Sem.run_bind, hrun, Result.andThen_ok, Sem.run_pure]) (.refl h) (.of_flat rfl)
      · cases hd
    · rename_i ad n c hx hy
      split at hd
      · rename_i hc
        injection (Option.some.inj hd) with e1 e2; subst e1 e2
        rw [hx] at hvx; rw [hy] at hvy
        obtain ⟨elem, hu⟩ := isSlice_some hc
        have hy' : a.eval y = .slice none 0 0 := hvy.eq_of_flat rfl
        rcases hvx.slice_any with ⟨hh, _⟩ | ⟨A, j, e, p, c', ad2, hh, _, _, _, _, _, _, hx'⟩
        · cases hh
        · have hrun : (do eqGuard .neq t x y (a.eval x) (a.eval y); binOp .neq t (a.eval x) (a.eval y) : Sem Value).run P w = .ok (.bool true) w := by
            rw [hx', hy']
            simp [eqGuard, binOp, run_equal_slice_nil w t elem (some ad2) n c' hu]
          simp only [Sem.run_bind] at hrun
          exact OpOk.mem (v' := .bool true) (by simp only [execOp, Sem.run_bind, hrun, Result.andThen_ok, Sem.run_pure]) (.refl h) (.of_flat rfl)
      · cases hd
    · rename_i k i k' j hx hy
      split at hd
      · rename_i hk
        subst hk
        split at hd
        · rename_i r hb
          injection (Option.some.inj hd) with e1 e2; subst e1 e2
          rw [hx] at hvx; rw [hy] at hvy
          obtain ⟨hrun, hfl⟩ := binI_ok (P := P) hb t x y w
          simp only [Sem.run_bind] at hrun
          exact OpOk.mem (by simp only [execOp, hvx.int_inv, hvy.int_inv, Sem.run_bind, hrun, Result.andThen_ok, Sem.run_pure]) (.refl h) (.of_flat hfl)
        · exact plain_ok h hV (by simp) hd
      · exact plain_ok h hV (by simp) hd
    · exact plain_ok h hV (by simp) hd
  | call c =>
    obtain ⟨callee, args, argTypes⟩ := c
    have hargs : ∀ x ∈ args, V ρ (ev l x) (a.eval x) := fun x hx => hV x (by simp [Op.operands, Call.operands]; exact .inr hx)
    simp only [opD] at hd
    split at hd
    · -- len
      split at hd
      · rename_i hc
        simp only [Bool.and_eq_true, beq_iff_eq] at hc
        obtain ⟨y, rfl⟩ := array1 hc.1
        obtain ⟨t, rfl⟩ := array1 hc.2
        have hv := hargs y (by simp)
        have e1 : (#[t] : Array TypeId).getD 0 0 = t := rfl
        have e2 : (#[y] : Array Operand).getD 0 (.tmp 0) = y := rfl
        rw [e1, e2] at hd
        split at hd
        all_goals first
          | cases hd; done
          | (rename_i hu hx
             simp only [Option.map_eq_some_iff] at hd
             obtain ⟨r, hr, hd⟩ := hd
             injection hd with e3 e4; subst e3 e4
             rw [hx] at hv
             obtain ⟨hrun, hfl⟩ := len_ok h hu hv hr trivial type
             exact OpOk.mem (by simp [execOp, resolve, invoke, builtin, hrun]) (.refl h) (.of_flat hfl))
      · cases hd
    · -- append
      split at hd
      · rename_i hc
        simp only [Bool.and_eq_true, beq_iff_eq] at hc
        obtain ⟨y, z, rfl⟩ := array2 hc.1.1
        obtain ⟨t, u, rfl⟩ := array2 hc.1.2
        have e1 : (#[t, u] : Array TypeId).getD 0 0 = t := rfl
        have e2 : (#[y, z] : Array Operand).getD 0 (.tmp 0) = y := rfl
        have e3 : (#[y, z] : Array Operand).getD 1 (.tmp 0) = z := rfl
        have e4 : (#[t, u] : Array TypeId).getD 1 0 = u := rfl
        rw [e1, e2, e3] at hd
        have hn := hc.2
        rw [e4] at hn
        obtain ⟨d, hu, hni⟩ := Option.map_eq_some_iff.1 hn
        obtain ⟨ρ', r', w', hrun, hp, hv⟩ := appendD_ok h type hd hu hni (hargs y (by simp)) (hargs z (by simp))
        exact OpOk.mem (by simp [execOp, resolve, invoke, builtin, hrun]) hp hv
      · cases hd
    · -- copy
      split at hd
      · rename_i hc
        simp only [Bool.and_eq_true, beq_iff_eq] at hc
        obtain ⟨y, z, rfl⟩ := array2 hc.1
        obtain ⟨t, u, rfl⟩ := array2 hc.2
        have e1 : (#[t, u] : Array TypeId).getD 0 0 = t := rfl
        have e2 : (#[y, z] : Array Operand).getD 0 (.tmp 0) = y := rfl
        have e3 : (#[y, z] : Array Operand).getD 1 (.tmp 0) = z := rfl
        rw [e1, e2, e3] at hd
        obtain ⟨r', w', hrun, hp, hv⟩ := copyD_ok (xt := u) h type hd (hargs y (by simp)) (hargs z (by simp))
        exact OpOk.mem (by simp [execOp, resolve, invoke, builtin, hrun]) hp hv
      · cases hd
    · -- clear
      split at hd
      · rename_i hc
        simp only [Bool.and_eq_true, beq_iff_eq] at hc
        obtain ⟨y, rfl⟩ := array1 hc.1
        obtain ⟨t, rfl⟩ := array1 hc.2
        have e1 : (#[t] : Array TypeId).getD 0 0 = t := rfl
        have e2 : (#[y] : Array Operand).getD 0 (.tmp 0) = y := rfl
        rw [e1, e2] at hd
        obtain ⟨r', w', hrun, hp, hv⟩ := clearD_ok h type hd (hargs y (by simp))
        exact OpOk.mem (by simp [execOp, resolve, invoke, builtin, hrun]) hp hv
      · cases hd
    · exact plain_ok h hV (by simp) hd
    · exact plain_ok h hV (by simp) hd
    · cases hd
  | _ => simp only [opD] at hd; cases hd
end
end Go.Ds
/-
  Ds against the model: calls, rounds, code.
-/
namespace Go.Ds
section
variable {P : Program} {ρ : Rho} {H : Heap} {w : World}

/-- The fence that lets all by, in a round or in none. -/
def fe (ro : Option Nat) : Fence := { fn := fun _ => True, depth := none, alive := false, round := ro }

theorem fe_depth (ro : Option Nat) {p : Prop} : (fe ro).depth.isSome = true → p := fun h => by cases h

/-- The marks of loops over functions among an activation's deferred calls. -/
def Marks (B : Nat) (w : World) (ds : List Deferred) : Prop := ∃ rs : List Nat, ds.map (·.target) = rs.map Target.collected ∧ rs.Nodup ∧ ∀ r ∈ rs, B ≤ r ∧ w.heap[r]? = some (.deferred (some []))

def LoopAt (ro : Option Nat) (w : World) : Prop := ∀ l, ro = some l → ∃ r, w.heap[l]? = some (Obj.loop r)

theorem not_wr (h : HRel P ρ H w) {b : Nat} {ds : Option (List Deferred)} (hb : w.heap[b]? = some (.deferred ds)) : ¬ Wr ρ H b := by
  rintro ⟨A, e, p, blk, hp, rfl, hg, hwr⟩
  cases blk with
  | cells cs ty rw lo ver =>
    obtain ⟨_, _, _, cur, ty', fr, hw, _⟩ := (h.cells _ _ _ _ _ _ hg).2 _ _ hp
    rw [hw] at hb; cases hb
  | map es ck ver =>
    have he : e = 0 := (h.one _ _ _ _ hp hg).resolve_left (by simp [Blk.isCells])
    subst he
    obtain ⟨q, es', hq, hw, _⟩ := h.map _ _ _ _ hg
    rw [hp] at hq; obtain rfl := Option.some.inj hq
    rw [hw] at hb; cases hb
  | loop r =>
    have he : e = 0 := (h.one _ _ _ _ hp hg).resolve_left (by simp [Blk.isCells])
    subst he
    obtain ⟨q, es', hq, hw, _⟩ := h.loop _ _ hg
    rw [hp] at hq; obtain rfl := Option.some.inj hq
    rw [hw] at hb; cases hb

/-- No place is at a block of deferred calls. -/
theorem not_placed (h : HRel P ρ H w) {b : Nat} {ds : Option (List Deferred)} (hb : w.heap[b]? = some (.deferred ds)) {A e : Nat} {p : Place} (hp : ρ A e = some p) : p.b ≠ b := by
  intro hpb
  subst hpb
  have hA := (h.dom _ _ _ hp).1
  cases hg : hget H A with
  | none => have := h.full A hA; rw [hg] at this; cases this
  | some blk =>
    cases blk with
    | cells cs ty rw lo ver =>
      obtain ⟨_, _, _, cur, ty', fr, hw, _⟩ := (h.cells _ _ _ _ _ _ hg).2 _ _ hp
      rw [hw] at hb; cases hb
    | map es ck ver =>
      have he : e = 0 := (h.one _ _ _ _ hp hg).resolve_left (by simp [Blk.isCells])
      subst he
      obtain ⟨q, es', hq, hw, _⟩ := h.map _ _ _ _ hg
      rw [hp] at hq; obtain rfl := Option.some.inj hq
      rw [hw] at hb; cases hb
    | loop r =>
      have he : e = 0 := (h.one _ _ _ _ hp hg).resolve_left (by simp [Blk.isCells])
      subst he
      obtain ⟨q, es', hq, hw, _⟩ := h.loop _ _ hg
      rw [hp] at hq; obtain rfl := Option.some.inj hq
      rw [hw] at hb; cases hb

theorem Marks.post {ρ' : Rho} {H' : Heap} {w' : World} {B : Nat} {ds : List Deferred} (h : Marks B w ds) (hr : HRel P ρ H w) (hp : Post P ρ H w ρ' H' w') : Marks B w' ds := by
  obtain ⟨rs, h1, h2, h3⟩ := h
  exact ⟨rs, h1, h2, fun r hr' => ⟨(h3 r hr').1, by rw [(hp.frame r (blk_lt (h3 r hr').2) (not_wr hr (h3 r hr').2)).1]; exact (h3 r hr').2⟩⟩

theorem LoopAt.post {ρ' : Rho} {H' : Heap} {w' : World} {ro : Option Nat} (h : LoopAt ro w) (hp : Post P ρ H w ρ' H' w') : LoopAt ro w' := fun l hl => by
  obtain ⟨r, hr⟩ := h l hl
  exact hp.loops l r hr

/-- A world that has turned at blocks that are no place alone. -/
theorem HRel.other {w' : World} (h : HRel P ρ H w) (hsz : w.heap.size ≤ w'.heap.size) (hb : ∀ A e p, ρ A e = some p → w'.heap[p.b]? = w.heap[p.b]?) : HRel P ρ H w' where
  dom A e p hp := ⟨(h.dom _ _ _ hp).1, Nat.lt_of_lt_of_le (h.dom _ _ _ hp).2 hsz⟩
  cells A cs ty rw lo ver hg := ⟨(h.cells _ _ _ _ _ _ hg).1, fun e p hp => ((h.cells _ _ _ _ _ _ hg).2 e p hp).world (.refl ρ) (hb _ _ _ hp)⟩
  map A es ck ver hg := by obtain ⟨p, es', hp, hw, ha⟩ := h.map _ _ _ _ hg; exact ⟨p, es', hp, by rw [hb _ _ _ hp, hw], ha⟩
  loop A r hg := by obtain ⟨p, r', hp, hw, ha⟩ := h.loop _ _ hg; exact ⟨p, r', hp, by rw [hb _ _ _ hp, hw], ha⟩
  one := h.one
  excl := h.excl
  full := h.full

theorem Post.allocOther (h : HRel P ρ H w) (o : Obj) : Post P ρ H w ρ H (w.alloc o) where
  le := .refl ρ
  rel := h.other (by simp) fun A e p hp => heap_alloc_old (h.dom _ _ _ hp).2
  len := Nat.le_refl _
  size := by simp
  os := rfl
  tape := rfl
  output := rfl
  frame b hb hw := ⟨heap_alloc_old hb, hw⟩
  loops b r hr := ⟨r, by rw [heap_alloc_old (blk_lt hr), hr]⟩
  img _ _ h := h

/-- A block of deferred calls, younger than the beginning, is shut. -/
theorem Post.putDeferred {w0 : World} {ρ0 : Rho} {H0 : Heap} (h : Post P ρ0 H0 w0 ρ H w) {b : Nat} {ds : Option (List Deferred)} (hb : w.heap[b]? = some (.deferred ds)) (hn : w0.heap.size ≤ b) (ds' : Option (List Deferred)) :
    Post P ρ0 H0 w0 ρ H (w.putObj b (.deferred ds')) := by
  have hne : ∀ c, c ≠ b → (w.putObj b (.deferred ds')).heap[c]? = w.heap[c]? := fun c hc => by
    simp only [World.putObj]; rw [Array.getElem?_setIfInBounds_ne (Ne.symm hc)]
  have hsz : (w.putObj b (.deferred ds')).heap.size = w.heap.size := by simp [World.putObj]
  exact {
    le := h.le
    rel := h.rel.other (by rw [hsz]; exact Nat.le_refl _) fun A e p hp => hne _ (not_placed h.rel hb hp)
    len := h.len
    size := by rw [hsz]; exact h.size
    os := h.os
    tape := h.tape
    output := h.output
    frame := fun c hc hw => ⟨by rw [hne c (by omega)]; exact (h.frame c hc hw).1, (h.frame c hc hw).2⟩
    loops := fun c r hr => by
      obtain ⟨r', hr'⟩ := h.loops c r hr
      have := blk_lt hr
      exact ⟨r', by rw [hne c (by omega)]; exact hr'⟩
    img := h.img }

def Ex.exit' : Ex → Exit
  | .normal => .normal
  | .exit id => .exit id
  | .ret => .ret

/-- Where a piece of code ends, by Ds. -/
def QD (P : Program) (ρ : Rho) (H : Heap) (w : World) (B : Nat) (e : Ex) (l' : List Value) (H' : Heap) : Exit → Act → World → Prop := fun e' a' w' =>
  e' = e.exit' ∧ ∃ ρ', Post P ρ H w ρ' H' w' ∧ All2 (V ρ') l' a'.tmps.toList ∧ Marks B w' a'.defers

/-- A piece of code runs as Ds says. -/
def Sim (P : Program) (c : Code) (l : List Value) (H : Heap) (e : Ex) (l' : List Value) (H' : Heap) : Prop :=
  ∀ (ro : Option Nat) (k B : Nat) (ρ : Rho) (w : World) (a : Act), HRel P ρ H w → All2 (V ρ) l a.tmps.toList → LoopAt ro w → Marks B w a.defers → B ≤ w.heap.size → c.wpIn (fe ro) k P (QD P ρ H w B e l' H') a w

theorem QD.trans {ρ1 : Rho} {H1 : Heap} {w1 : World} {B : Nat} {e : Ex} {l' : List Value} {H' : Heap} (hp : Post P ρ H w ρ1 H1 w1) {e' : Exit} {a' : Act} {w' : World} (h : QD P ρ1 H1 w1 B e l' H' e' a' w') : QD P ρ H w B e l' H' e' a' w' := by
  obtain ⟨h1, ρ', h2, h3, h4⟩ := h
  exact ⟨h1, ρ', hp.trans h2, h3, h4⟩

/-- What a function gives, by Ds. -/
def CallOk (P : Program) (f : FuncId) (args : List Value) (H : Heap) (v : Value) (H' : Heap) : Prop :=
  ∀ (k : Nat) (ρ : Rho) (w : World) (args' : Array Value), HRel P ρ H w → All2 (V ρ) args args'.toList →
    CallsIn (fe none) k P f args' w fun e w' => ∃ ρ' v', e = .returned v' ∧ Post P ρ H w ρ' H' w' ∧ V ρ' v v'

/-- One result. -/
def resF (tm : Array Value) : ResultVar → Sem Value
  | .tmp t => Pure.pure (tm.getD t undef)
  | .cell a t => do loadVar t (← asAddr (tm.getD a undef))

theorem results_resF (fn : Func) (tm : Array Value) : results fn tm = (do let vs ← fn.results.mapM (resF tm); Pure.pure (if h : vs.size = 1 then vs[0] else .tuple vs)) := rfl

theorem resultsL_ok (h : HRel P ρ H w) {l : List Value} {tm : Array Value} (hE : All2 (V ρ) l tm.toList) : ∀ (rs : List ResultVar) (vs : List Value), resultsL P l H rs = some vs →
    ∃ vs', (rs.mapM (resF tm)).run P w = .ok vs' w ∧ All2 (V ρ) vs vs'
  | [], vs, hv => by
    simp only [resultsL, Option.some.injEq] at hv; subst hv
    exact ⟨[], by simp, trivial⟩
  | r :: rs, vs, hv => by
    simp only [resultsL, Option.bind_eq_some_iff, Option.map_eq_some_iff] at hv
    obtain ⟨v, hr, vs0, hrs, rfl⟩ := hv
    obtain ⟨vs', hrun, hall⟩ := resultsL_ok h hE rs vs0 hrs
    cases r with
    | tmp t =>
      simp only [resultD, Option.some.injEq] at hr; subst hr
      exact ⟨tm.getD t undef :: vs', by simp only [List.mapM_cons, Sem.run_bind, resF, Sem.run_pure, Result.andThen_ok, hrun], get_ok hE t, hall⟩
    | cell a t =>
      simp only [resultD] at hr
      obtain ⟨r', hrun2, hv⟩ := load_ok h hr (get_ok hE a)
      have hva := get_ok hE a
      have hp : ∃ b, tm.getD a undef = .pointer (some b) := by
        unfold loadD at hr
        split at hr
        · rename_i heq; rw [heq] at hva; exact hva.ptr_some
        · cases hr
      obtain ⟨b, hb⟩ := hp
      rw [hb] at hrun2
      have hlv : (loadVar t b).run P w = .ok r' w := by simpa [Instr.loadAt, Instr.sureAddr] using hrun2
      refine ⟨r' :: vs', ?_, hv, hall⟩
      have hone : (resF tm (.cell a t)).run P w = .ok r' w := by
        simp only [resF, Sem.run_bind, hb, asAddr, Sem.run_pure, Result.andThen_ok, hlv]
      simp only [List.mapM_cons, Sem.run_bind, hone, Sem.run_pure, Result.andThen_ok, hrun]

theorem V.v1_of {v v' : Value} (h : V ρ v v') (hn : noTuple v = true) : V1 ρ v v' := by
  cases h with
  | v1 h => exact h
  | tuple h => simp [noTuple] at hn

theorem results_ok (h : HRel P ρ H w) {fn : Func} {l : List Value} {tm : Array Value} (hE : All2 (V ρ) l tm.toList) {v : Value} (hr : resultsD P fn l H = some v) :
    ∃ v', (results fn tm).run P w = .ok v' w ∧ V ρ v v' := by
  unfold resultsD at hr
  simp only [Option.bind_eq_some_iff] at hr
  obtain ⟨vs, hvs, hr⟩ := hr
  obtain ⟨vs', hrun, hall⟩ := resultsL_ok h hE _ _ hvs
  have hm : (fn.results.mapM (resF tm)).run P w = .ok vs'.toArray w := by
    rw [Array.mapM_eq_mapM_toList]
    simp only [Sem.run_map, hrun, Result.andThen_ok]
  rw [results_resF]
  split at hr
  · rename_i x
    obtain rfl := Option.some.inj hr
    cases vs' with
    | nil => exact hall.elim
    | cons y vs' => cases vs' with
      | cons => exact hall.2.elim
      | nil =>
        refine ⟨y, ?_, hall.1⟩
        simp only [Sem.run_bind]
        rw [hm]
        simp
  · rename_i hne
    split at hr
    · rename_i hnt
      obtain rfl := Option.some.inj hr
      refine ⟨.tuple vs'.toArray, ?_, .tuple ?_⟩
      · simp only [Sem.run_bind]
        rw [hm]
        have hlen := hall.length
        have : ¬ vs'.toArray.size = 1 := by
          intro h1
          have : vs.length = 1 := by rw [hlen]; simpa using h1
          obtain ⟨x, hx⟩ := List.length_eq_one_iff.1 this
          exact hne x hx
        simp only [Result.andThen_ok, Sem.run_pure, dif_neg this]
      · have key : ∀ {a b : List Value}, All2 (V ρ) a b → a.all noTuple = true → All2 (V1 ρ) a b := by
          intro a
          induction a with
          | nil => intro b h _; cases b with | nil => trivial | cons => exact h.elim
          | cons x a ih =>
            intro b h hs
            cases b with
            | nil => exact h.elim
            | cons y b =>
              simp only [List.all_cons, Bool.and_eq_true] at hs
              exact ⟨h.1.v1_of hs.1, ih h.2 hs.2⟩
        simpa using key hall hnt
    · cases hr

theorem leaves_ok {fn : Func} {tm : Array Value} {k B : Nat} {R : Ending → World → Prop} {w0 : World} {ρ0 : Rho} {H0 : Heap} {v : Value} {l : List Value} (hE : All2 (V ρ) l tm.toList) (hr : resultsD P fn l H = some v) (hB : w0.heap.size ≤ B)
    (hR : ∀ w2 v', Post P ρ0 H0 w0 ρ H w2 → V ρ v v' → R (.returned v') w2) : ∀ (ds : List Deferred) (w1 : World), Post P ρ0 H0 w0 ρ H w1 → Marks B w1 ds → LeavesInM (fe none) k P fn tm R ds .returning w1
  | [], w1, hp, _ => by
    obtain ⟨v', hrun, hv⟩ := results_ok hp.rel hE hr
    exact ⟨v', hrun, hR _ _ hp hv⟩
  | d :: ds, w1, hp, ⟨rs, h1, h2, h3⟩ => by
    cases rs with
    | nil => simp at h1
    | cons r rs =>
      simp only [List.map_cons, List.cons.injEq] at h1
      obtain ⟨hd, hds⟩ := h1
      have hb := h3 r (by simp)
      refine ⟨by simp, .inl ⟨r, _, hd, run_takeDeferred hb.2, ?_⟩⟩
      refine leaves_ok hE hr hB hR ds _ (hp.putDeferred hb.2 (Nat.le_trans hB hb.1) none) ⟨rs, hds, (List.nodup_cons.1 h2).2, fun q hq => ⟨(h3 q (by simp [hq])).1, ?_⟩⟩
      have hne : q ≠ r := fun e => (List.nodup_cons.1 h2).1 (e ▸ hq)
      simp only [World.putObj]
      rw [Array.getElem?_setIfInBounds_ne (Ne.symm hne)]
      exact (h3 q (by simp [hq])).2

/-- **A function, out of its body.** -/
theorem callF_ok {ex : Run} (hex : ∀ c l H e l' H', ex c l H = some (e, l', H') → Sim P c l H e l' H') {f : FuncId} {args : List Value} {v : Value} {H' : Heap} (hc : callF P ex f args H = some (v, H')) : CallOk P f args H v H' := by
  intro k ρ w args' hr ha
  unfold callF at hc
  split at hc
  · rename_i fn hf
    split at hc
    · rename_i c hb
      split at hc
      · cases hc
      · rename_i hname
        have hlen := ha.length
        have hE : All2 (V ρ) (args ++ List.replicate (fn.ntmps - args.length) undef) ({ tmps := args' ++ Array.replicate (fn.ntmps - args'.size) undef, defers := [] } : Act).tmps.toList := by
          simp only [Array.toList_append, Array.toList_replicate]
          refine ha.append ?_
          have : args'.size = args.length := by simpa using hlen.symm
          rw [this]
          exact All2.same fun x hx => by rw [List.mem_replicate] at hx; rw [hx.2]; exact .undef
        have key : ∀ e l1 H1, ex c (args ++ List.replicate (fn.ntmps - args.length) undef) H = some (e, l1, H1) → (e = .normal ∨ e = .ret) → (resultsD P fn l1 H1).map (fun v => (v, H1)) = some (v, H') →
            CallsIn (fe none) k P f args' w fun e w' => ∃ ρ' v', e = .returned v' ∧ Post P ρ H w ρ' H' w' ∧ V ρ' v v' := fun e l1 H1 he hen hres => by
          simp only [Option.map_eq_some_iff] at hres
          obtain ⟨v0, hv0, hq⟩ := hres
          injection hq with e1 e2; subst e1 e2
          refine callsIn_of_wp_marks hf hb trivial ?_ rfl
          refine wpIn_mono (hex _ _ _ _ _ _ he none k w.heap.size ρ w _ hr hE (fun _ h => by cases h) ⟨[], rfl, List.nodup_nil, by simp⟩ (Nat.le_refl _)) ?_
          rintro e' a' w' ⟨he', ρ', hp, hE', hM⟩
          have hl := leaves_ok (P := P) (fn := fn) (k := k) (R := fun e w' => ∃ ρ' v', e = .returned v' ∧ Post P ρ H w ρ' H1 w' ∧ V ρ' v0 v') hE' hv0 (Nat.le_refl _) (fun w2 v' hp2 hv => ⟨ρ', v', rfl, hp2, hv⟩) a'.defers w' hp hM
          rcases hen with rfl | rfl
          · subst he'; exact hl
          · subst he'; exact hl
        split at hc
        · rename_i l1 H1 he; exact key _ _ _ he (.inl rfl) hc
        · rename_i l1 H1 he; exact key _ _ _ he (.inr rfl) hc
        · cases hc
    · cases hc
  · cases hc
end
end Go.Ds
/-
  Ds against the model: rounds of a range over a function, operations that call, code.
-/
namespace Go.Ds
section
variable {P : Program} {ρ : Rho} {H : Heap} {w : World}

/-- A loop's record is turned. -/
theorem Post.putLoop (h : HRel P ρ H w) {L : Nat} {r r0 : Loop} {p : Place} {r' r0' : Loop} (hg : hget H L = some (.loop r0)) (hp : ρ L 0 = some p) (hw : w.heap[p.b]? = some (.loop r0')) (hr : LoopRel ρ r r') :
    Post P ρ H w ρ (hset H L (.loop r)) (w.putObj p.b (.loop r')) := by
  have hlt := blk_lt hw
  have hne : ∀ c, c ≠ p.b → (w.putObj p.b (.loop r')).heap[c]? = w.heap[c]? := fun c hc => by
    simp only [World.putObj]; rw [Array.getElem?_setIfInBounds_ne (Ne.symm hc)]
  have hsame : (w.putObj p.b (.loop r')).heap[p.b]? = some (.loop r') := by
    simp only [World.putObj]; rw [Array.getElem?_setIfInBounds_self_of_lt hlt]
  exact Post.upd h _ hg rfl hp (.refl ρ) (fun _ _ _ hq => .inl hq) (by simp [World.putObj]) hne rfl rfl rfl (fun _ _ _ _ _ e => by cases e) (fun _ _ _ e => by cases e)
    (fun r2 e => by injection e with e; subst e; exact ⟨p, r', hp, hsame, hr⟩) (fun f q hq => .inr ((h.one _ _ _ _ hq hg).resolve_left (by simp [Blk.isCells]))) (fun r2 _ => ⟨r', hsame⟩)

theorem loop_at (h : HRel P ρ H w) {L : Nat} {r : Loop} {p : Place} (hg : hget H L = some (.loop r)) (hp : ρ L 0 = some p) : ∃ r', w.heap[p.b]? = some (.loop r') ∧ LoopRel ρ r r' := by
  obtain ⟨q, r', hq, hw, hr⟩ := h.loop _ _ hg
  rw [hp] at hq
  obtain rfl := Option.some.inj hq
  exact ⟨r', hw, hr⟩

theorem foldl_tmps {ps : List Tmp} : ∀ {args args' : List Value} {l m : List Value}, All2 (V ρ) args args' → All2 (V ρ) l m →
    All2 (V ρ) ((ps.zip args).foldl (fun t (p, v) => t.set p v) l) ((ps.zip args').foldl (fun t (p, v) => t.set p v) m) := by
  induction ps with
  | nil => intro args args' l m _ h; simpa using h
  | cons q ps ih =>
    intro args args' l m ha h
    cases args with
    | nil => cases args' with | nil => simpa using h | cons => exact ha.elim
    | cons x args => cases args' with
      | nil => exact ha.elim
      | cons y args' =>
        simp only [List.zip_cons_cons, List.foldl_cons]
        exact ih ha.2 (h.set ha.1 q)

/-- **One round.** -/
theorem round_ok {ex : Run} (hex : ∀ c l H e l' H', ex c l H = some (e, l', H') → Sim P c l H e l' H') {L : Nat} {args : List Value} {v : Value} {H' : Heap} (hc : roundD ex L args H = some (v, H'))
    (hr : HRel P ρ H w) {p : Place} (hp : ρ L 0 = some p) {args' : Array Value} (ha : All2 (V ρ) args args'.toList) (k : Nat) :
    ∃ r', w.heap[p.b]? = some (.loop r') ∧ args'.size = r'.params.size ∧
      RoundIn (fe none) k P p.b r'.fn ((r'.params.zip args').foldl (fun tmps (t, a) => tmps.setIfInBounds t a) r'.tmps) r'.assign r'.body w
        fun e w' => ∃ ρ' v', e = .returned v' ∧ Post P ρ H w ρ' H' w' ∧ V ρ' v v' := by
  unfold roundD at hc
  split at hc
  · rename_i r hg
    obtain ⟨r', hw, hrel⟩ := loop_at hr hg hp
    split at hc
    · rename_i hcond
      obtain ⟨hsz, hst⟩ := hcond
      have hsz' : args'.size = r'.params.size := by rw [hrel.params, hsz]; simpa using ha.length.symm
      refine ⟨r', hw, hsz', roundIn_of_wpIn trivial ?_⟩
      split at hc
      · rename_i l1 H1 he1
        split at hc
        · rename_i r1 hg1
          split at hc
          · rename_i hst1
            have hE : All2 (V ρ) ((r.params.toList.zip args).foldl (fun t (p, v) => t.set p v) r.tmps.toList) ((r'.params.zip args').foldl (fun tmps (t, a) => tmps.setIfInBounds t a) r'.tmps).toList := by
              have e : ((r'.params.zip args').foldl (fun tmps (t, a) => tmps.setIfInBounds t a) r'.tmps).toList = (r.params.toList.zip args'.toList).foldl (fun t (p, v) => t.set p v) r'.tmps.toList := by
                rw [← Array.foldl_toList, Array.toList_zip, hrel.params]
                generalize r.params.toList.zip args'.toList = zs
                generalize r'.tmps = tm
                induction zs generalizing tm with
                | nil => rfl
                | cons z zs ih => simp only [List.foldl_cons]; rw [ih]; simp
              rw [e]
              exact foldl_tmps ha hrel.tmps
            have hs1 := hex _ _ _ _ _ _ he1 (some p.b) k w.heap.size ρ w { tmps := ((r'.params.zip args').foldl (fun tmps (t, a) => tmps.setIfInBounds t a) r'.tmps), defers := [] } hr hE
              (fun l hl => by cases hl; exact ⟨r', hw⟩) ⟨[], rfl, List.nodup_nil, by simp⟩ (Nat.le_refl _)
            rw [hrel.assign]
            refine wpIn_mono hs1 ?_
            rintro e' a1 w1 ⟨he', ρ1, hp1, hE1, hM1⟩
            subst he'
            obtain ⟨r1', hw1, hrel1⟩ := loop_at hp1.rel hg1 (hp1.le _ _ _ hp)
            have hbr := run_beginRound (P := P) hw1 (by rw [hrel1.state, hst1])
            have hp2 := Post.putLoop (r := { r1 with state := .busy }) (r' := { r1' with state := .busy }) hp1.rel hg1 (hp1.le _ _ _ hp) hw1 ⟨rfl, hrel1.pending, hrel1.tmps, hrel1.params, hrel1.assign, hrel1.body⟩
            refine ⟨_, hbr, ?_⟩
            split at hc
            · rename_i e l2 H2 he2
              split at hc
              · rename_i r2 hg2
                have hpost2 := hp1.trans hp2
                have hs2 := hex _ _ _ _ _ _ he2 (some p.b) k w.heap.size ρ1 _ a1 hp2.rel hE1
                  (fun l hl => by cases hl; exact hpost2.loops _ _ hw) (hM1.post hp1.rel hp2) hpost2.size
                rw [hrel.body]
                refine wpIn_mono hs2 ?_
                rintro e3 a3 w3 ⟨he3, ρ3, hp3, hE3, hM3⟩
                obtain ⟨r2', hw2, hrel2⟩ := loop_at hp3.rel hg2 (hp3.le _ _ _ (hp1.le _ _ _ hp))
                have hpost3 := hpost2.trans hp3
                have fin : ∀ jump : Option Code, (some (Value.bool jump.isNone, hset H2 L (.loop { r2 with state := if jump.isNone then .ready else .done, pending := jump })) : Option (Value × Heap)) = some (v, H') →
                    ∃ v' w', (Instr.endRound p.b jump).run P w3 = .ok v' w' ∧ ∃ ρ' v2, Ending.returned v' = .returned v2 ∧ Post P ρ H w ρ' H' w' ∧ V ρ' v v2 := fun jump hj => by
                  injection (Option.some.inj hj) with e1 e2
                  subst e1 e2
                  have hp4 := Post.putLoop (r := { r2 with state := if jump.isNone then .ready else .done, pending := jump }) (r' := { r2' with state := if jump.isNone then .ready else .done, pending := jump })
                    hp3.rel hg2 (hp3.le _ _ _ (hp1.le _ _ _ hp)) hw2 ⟨rfl, rfl, hrel2.tmps, hrel2.params, hrel2.assign, hrel2.body⟩
                  exact ⟨_, _, run_endRound jump hw2, _, _, rfl, hpost3.trans hp4, .of_flat rfl⟩
                cases e with
                | normal => subst he3; exact fin none hc
                | exit id => subst he3; exact fin (some (.exit id)) hc
                | ret => subst he3; exact fin (some .ret) hc
              · cases hc
            · cases hc
          · cases hc
        · cases hc
      · cases hc
    · cases hc
  · cases hc
end
end Go.Ds
/-
  Ds against the model: operations that call, lists of operations, code (regions that draw apart).
-/
namespace Go.Ds
section
variable {P : Program} {ρ : Rho} {H : Heap} {w : World}

theorem V.of_bool {v : Value} {b : Bool} (h : V ρ v (.bool b)) : v = .bool b := by
  cases h with
  | v1 h1 => cases h1 with
    | c1 h1 => cases h1 with
      | c0 h1 => cases h1 with
        | flat h1 => rfl

theorem yielded_ok {l : List Value} {tm : Array Value} (hE : All2 (V ρ) l tm.toList) (ops : Array Oper) (j : Nat) : yielded ops tm j = yieldedD ops l j := by
  unfold yielded yieldedD
  cases hd : (ops[j]?).bind (·.dst) with
  | none => rfl
  | some d =>
    simp only [Option.bind_some]
    cases hl : l[d]? with
    | none =>
      have : tm[d]? = none := by
        have h1 := List.getElem?_eq_none_iff.1 hl
        rw [hE.length] at h1
        rw [Array.getElem?_eq_none_iff]; simpa using h1
      rw [this]
    | some v =>
      obtain ⟨v', hv', hr⟩ := hE.get d v hl
      have : tm[d]? = some v' := by simpa using hv'
      rw [this]
      cases v' with
      | bool b => rw [hr.of_bool]
      | _ =>
        cases v with
        | bool b => have := hr.bool_inv; cases this
        | _ => rfl

theorem wanted_ok {l : List Value} {tm : Array Value} (hE : All2 (V ρ) l tm.toList) (ops : Array Oper) (o : Oper) : Region.wanted o (yielded ops tm) = Region.wanted o (yieldedD ops l) := by
  unfold Region.wanted
  cases o.guard with
  | none => rfl
  | some g => simp only [yielded_ok hE]

theorem V.yield_inv {L : Nat} {b c : Array Value} {v' : Value} (h : V ρ (.func (.yield L) b c) v') : ∃ p, ρ L 0 = some p ∧ v' = .func (.yield p.b) #[] #[] := by
  cases h with
  | v1 h1 => cases h1 with
    | c1 h1 => cases h1 with
      | c0 h1 => cases h1 with
        | flat h1 => simp [scalar] at h1
      | yld hp => exact ⟨_, hp, rfl⟩

theorem All2.v_of_c0 {a b : List Value} (h : All2 (C0 ρ) a b) : All2 (V ρ) a b := h.mono fun _ _ h => .v1 (.c1 (.c0 h))

/-- The functions of a program that have a body are entered. -/
theorem run_callFunc {f : FuncId} {fn : Func} (hf : P.funcs[f]? = some fn) (hb : fn.body.isNone = false) (hn : (fn.name == "runtime.NumGoroutine") = false) (args : Array Value) (w : World) : (callFunc f args).run P w = .ok (.enter f args) w := by
  unfold callFunc
  simp only [Sem.run_bind, run_program, Result.andThen_ok, hf, hn, hb]
  simp

theorem callF_fn {ex : Run} {f : FuncId} {args : List Value} {r : Value × Heap} (hc : callF P ex f args H = some r) : ∃ fn, P.funcs[f]? = some fn ∧ fn.body.isNone = false ∧ (fn.name == "runtime.NumGoroutine") = false := by
  unfold callF at hc
  split at hc
  · rename_i fn hf
    split at hc
    · rename_i c hb
      split at hc
      · cases hc
      · rename_i hn
        exact ⟨fn, hf, by rw [hb]; rfl, by simpa using hn⟩
    · cases hc
  · cases hc

/-- What a round of a loop gives, by Ds. -/
def RoundOk (P : Program) (L : Nat) (args : List Value) (H : Heap) (v : Value) (H' : Heap) : Prop :=
  ∀ (ρ : Rho) (w : World) (p : Place) (args' : Array Value) (k : Nat), HRel P ρ H w → ρ L 0 = some p → All2 (V ρ) args args'.toList →
    ∃ r', w.heap[p.b]? = some (.loop r') ∧ args'.size = r'.params.size ∧
      RoundIn (fe none) k P p.b r'.fn ((r'.params.zip args').foldl (fun tmps (t, a) => tmps.setIfInBounds t a) r'.tmps) r'.assign r'.body w
        fun e w' => ∃ ρ' v', e = .returned v' ∧ Post P ρ H w ρ' H' w' ∧ V ρ' v v'

/-- A function that is entered. -/
def Entered (P : Program) (f : FuncId) : Prop := ∃ fn, P.funcs[f]? = some fn ∧ fn.body.isNone = false ∧ (fn.name == "runtime.NumGoroutine") = false

/-- An operation runs as Ds says. -/
inductive StepR (P : Program) (o : Oper) (l : List Value) (H : Heap) (v : Value) (H' : Heap) : Prop where
  | op (hok : o.op.operands.toList.all operandOk = true) (hd : opD P o l H = some (v, H'))
  | call (hok : o.op.operands.toList.all operandOk = true) (c : Call) (f : Operand) (k : FuncId) (first captured : Array Value) (hc : o.op = .call c) (hf : c.callee = .value f) (hev : ev l f = .func (.func k) first captured)
      (he : Entered P k) (hcall : CallOk P k (first.toList ++ c.args.toList.map (ev l) ++ captured.toList) H v H')
  | round (hok : o.op.operands.toList.all operandOk = true) (c : Call) (f : Operand) (L : Nat) (b d : Array Value) (hc : o.op = .call c) (hf : c.callee = .value f) (hev : ev l f = .func (.yield L) b d)
      (hround : RoundOk P L (c.args.toList.map (ev l)) H v H')

theorem stepR_of {ex : Run} (hex : ∀ c l H e l' H', ex c l H = some (e, l', H') → Sim P c l H e l' H') {o : Oper} {l : List Value} {v : Value} {H' : Heap} (hs : stepD P ex o l H = some (v, H')) : StepR P o l H v H' := by
  unfold stepD at hs
  by_cases hok : o.op.operands.toList.all operandOk = true
  case neg => rw [if_neg hok] at hs; cases hs
  rw [if_pos hok] at hs
  split at hs
  · rename_i c hc
    split at hs
    · rename_i f hf
      unfold callV at hs
      split at hs
      · rename_i fk first captured hev
        exact .call hok c f fk first captured hc hf hev (callF_fn hs) (callF_ok hex hs)
      · rename_i L b d hev
        exact .round hok c f L b d hc hf hev fun ρ w p args' k hr hp ha => round_ok hex hs hr hp ha k
      · cases hs
    · exact .op hok hs
  · exact .op hok hs

theorem StepR.ok {o : Oper} {l : List Value} {v : Value} {H' : Heap} (h : StepR P o l H v H') : o.op.operands.toList.all operandOk = true := by
  cases h <;> assumption

/-- An operation that is no effect. -/
theorem StepR.opD {o : Oper} {l : List Value} {v : Value} {H' : Heap} (h : StepR P o l H v H') (hn : ∀ c f, o.op = .call c → c.callee ≠ .value f) : opD P o l H = some (v, H') := by
  cases h with
  | op _ hd => exact hd
  | call _ c f k first captured hc hf => exact absurd hf (hn c f hc)
  | round _ c f L b d hc hf => exact absurd hf (hn c f hc)

/-- **An operation.** -/
theorem StepR.sound {o : Oper} {l : List Value} {v : Value} {H' : Heap} (hs : StepR P o l H v H') {a : Act} (hr : HRel P ρ H w)
    (hV : ∀ x, x ∈ o.op.operands → operandOk x = true → V ρ (ev l x) (a.eval x)) (ro : Option Nat) (k : Nat) {next : Act → World → Prop} {Q : Exit → Act → World → Prop} (hn : ∀ ρ' v' w', Post P ρ H w ρ' H' w' → V ρ' v v' → next (a.put o.dst v') w') :
    o.wpIn (fe ro) k P a w next Q := by
  refine ⟨fun _ _ => trivial, ?_⟩
  have hok := hs.ok
  have hok' : ∀ x, x ∈ o.op.operands → operandOk x = true := fun x hx => by
    simp only [List.all_eq_true] at hok; exact hok x (by simpa using hx)
  have hV' : ∀ x, x ∈ o.op.operands → V ρ (ev l x) (a.eval x) := fun x hx => hV x hx (hok' x hx)
  have exec : ∀ {c : Call} {f : Operand}, o.op = .call c → c.callee = .value f → (∀ d, o.op ≠ .defer d) ∧ o.op.operands = #[f] ++ c.args ∧ execOp a.eval o = (do let d ← resolve a.eval c o.type; invoke d.target d.args) := by
    intro c f hc hf
    refine ⟨fun c' hc' => (by rw [hc] at hc'; cases hc'), by rw [hc]; simp [Op.operands, Call.operands, hf], ?_⟩
    obtain ⟨dst, op, type, pos, after, guard⟩ := o
    simp only at hc
    subst hc
    rfl
  cases hs with
  | op _ hd =>
    have hdef : ∀ c, o.op ≠ .defer c := fun c hc => by simp only [Go.Ds.opD, hc] at hd; cases hd
    rw [Oper.semAt_eq _ _ _ hdef]
    obtain ⟨ρ', v', nx, w', hrun, hnx, hp, hv⟩ := opD_ok hr hV' hd
    rw [hrun]
    rcases hnx with rfl | ⟨rfl, rfl⟩
    · exact hn ρ' v' w' hp hv
    · exact hn ρ' undef w' hp hv
  | call _ c f fk first captured hc hf hev he hcall =>
    obtain ⟨hdef, hops, hexec⟩ := exec hc hf
    rw [Oper.semAt_eq _ _ _ hdef]
    have hfv := hV' f (by rw [hops]; simp)
    have hav := args_ok c.args.toList fun x hx => hV' x (by rw [hops]; simp; exact .inr (by simpa using hx))
    rw [hexec]
    rw [hev] at hfv
    obtain ⟨first', captured', hfe, hfa, hfc⟩ := hfv.fn_inv
    obtain ⟨fn, hfn, hbody, hname⟩ := he
    have hrun : (do let d ← resolve a.eval c o.type; invoke d.target d.args : Sem Next).run P w = .ok (.enter fk (first' ++ c.args.map a.eval ++ captured')) w := by
      simp only [resolve, hf, hfe, Deferred.ofValue, Sem.run_bind, Sem.run_pure, Result.andThen_ok, invoke]
      exact run_callFunc hfn hbody hname _ w
    rw [hrun]
    refine ⟨fe_depth ro, ?_⟩
    have hargs : All2 (V ρ) (first.toList ++ c.args.toList.map (ev l) ++ captured.toList) (first' ++ c.args.map a.eval ++ captured').toList := by
      simp only [Array.toList_append, Array.toList_map]
      exact ((hfa.v_of_c0).append hav).append hfc.v_of_c0
    have hci : CallsIn (fe ro) (k - 1) P fk (first' ++ c.args.map a.eval ++ captured') w fun e w' => ∃ ρ' v', e = .returned v' ∧ Post P ρ H w ρ' H' w' ∧ V ρ' v v' := hcall (k - 1) ρ w _ hr hargs
    refine hci.mono ?_
    rintro e w' ⟨ρ', v', rfl, hp, hv⟩
    exact hn ρ' v' w' hp hv
  | round _ c f L b d hc hf hev hround =>
    obtain ⟨hdef, hops, hexec⟩ := exec hc hf
    rw [Oper.semAt_eq _ _ _ hdef]
    have hfv := hV' f (by rw [hops]; simp)
    have hav := args_ok c.args.toList fun x hx => hV' x (by rw [hops]; simp; exact .inr (by simpa using hx))
    rw [hexec]
    rw [hev] at hfv
    obtain ⟨p, hp, hfe⟩ := hfv.yield_inv
    have hargs : All2 (V ρ) (c.args.toList.map (ev l)) (c.args.map a.eval).toList := by
      simpa using hav
    obtain ⟨r', hw, hsz, hround⟩ := hround ρ w p _ (k - 1) hr hp hargs
    have hrun : (do let d ← resolve a.eval c o.type; invoke d.target d.args : Sem Next).run P w = .ok (.round p.b r'.fn ((r'.params.zip (c.args.map a.eval)).foldl (fun tmps (t, a) => tmps.setIfInBounds t a) r'.tmps) r'.assign r'.body) w := by
      simp only [resolve, hf, hfe, Deferred.ofValue, Sem.run_bind, Sem.run_pure, Result.andThen_ok, invoke]
      simp only [Array.empty_append]
      exact run_yield hw hsz
    rw [hrun]
    refine ⟨fe_depth ro, ?_⟩
    have hri : RoundIn (fe ro) (k - 1) P p.b r'.fn ((r'.params.zip (c.args.map a.eval)).foldl (fun tmps (t, a) => tmps.setIfInBounds t a) r'.tmps) r'.assign r'.body w
      fun e w' => ∃ ρ' v', e = .returned v' ∧ Post P ρ H w ρ' H' w' ∧ V ρ' v v' := hround
    refine hri.mono ?_
    rintro e w' ⟨ρ', v', rfl, hp, hv⟩
    exact hn ρ' v' w' hp hv

theorem step_ok {ex : Run} (hex : ∀ c l H e l' H', ex c l H = some (e, l', H') → Sim P c l H e l' H') {o : Oper} {l : List Value} {v : Value} {H' : Heap} (hs : stepD P ex o l H = some (v, H')) {a : Act} (hr : HRel P ρ H w)
    (hV : ∀ x, x ∈ o.op.operands → operandOk x = true → V ρ (ev l x) (a.eval x)) (ro : Option Nat) (k : Nat) {next : Act → World → Prop} {Q : Exit → Act → World → Prop} (hn : ∀ ρ' v' w', Post P ρ H w ρ' H' w' → V ρ' v v' → next (a.put o.dst v') w') :
    o.wpIn (fe ro) k P a w next Q := (stepR_of hex hs).sound hr hV ro k hn

/-- What operations leave, by Ds. -/
def OpsOk (P : Program) (ρ : Rho) (H : Heap) (w : World) (ds : List Deferred) (l' : List Value) (H' : Heap) (a' : Act) (w' : World) : Prop :=
  ∃ ρ', Post P ρ H w ρ' H' w' ∧ All2 (V ρ') l' a'.tmps.toList ∧ a'.defers = ds

theorem put_defers (a : Act) (d : Option Tmp) (v : Value) : (a.put d v).defers = a.defers := by cases d <;> rfl

/-- Operations one after the other run as Ds says. -/
inductive OpsR (P : Program) (ops : Array Oper) : List Nat → List Value → Heap → List Value → Heap → Prop where
  | nil (l : List Value) (H : Heap) : OpsR P ops [] l H l H
  | step {i : Nat} {is : List Nat} {o : Oper} {l : List Value} {H : Heap} {v : Value} {H1 : Heap} {l' : List Value} {H' : Heap} (ho : ops[i]? = some o) (hw : Region.wanted o (yieldedD ops l) = true) (hs : StepR P o l H v H1)
      (rest : OpsR P ops is (put l o.dst v) H1 l' H') : OpsR P ops (i :: is) l H l' H'
  | past {i : Nat} {is : List Nat} {o : Oper} {l : List Value} {H : Heap} {l' : List Value} {H' : Heap} (ho : ops[i]? = some o) (hw : Region.wanted o (yieldedD ops l) = false)
      (rest : OpsR P ops is (put l o.dst undef) H l' H') : OpsR P ops (i :: is) l H l' H'

theorem opsR_of {ex : Run} (hex : ∀ c l H e l' H', ex c l H = some (e, l', H') → Sim P c l H e l' H') {ops : Array Oper} : ∀ (is : List Nat) (l : List Value) (H : Heap) (l' : List Value) (H' : Heap), opsD P ex ops is l H = some (l', H') → OpsR P ops is l H l' H'
  | [], l, H, l', H', ho => by
    simp only [opsD, Option.some.injEq, Prod.mk.injEq] at ho
    obtain ⟨rfl, rfl⟩ := ho
    exact .nil l H
  | i :: is, l, H, l', H', ho => by
    unfold opsD at ho
    split at ho
    · cases ho
    · rename_i o hio
      split at ho
      · rename_i hw
        split at ho
        · rename_i v H1 hst
          simp only [force_eq, forceS_eq, forceH_eq] at ho
          exact .step hio hw (stepR_of hex hst) (opsR_of hex is _ _ _ _ ho)
        · cases ho
      · rename_i hw
        simp only [forceS_eq, forceH_eq] at ho
        exact .past hio (by simpa using hw) (opsR_of hex is _ _ _ _ ho)

theorem OpsR.sound {ops : Array Oper} (ro : Option Nat) (k : Nat) {Q : Exit → Act → World → Prop} {is : List Nat} {l : List Value} {H : Heap} {l' : List Value} {H' : Heap} (h : OpsR P ops is l H l' H') :
    ∀ (ρ : Rho) (w : World) (a : Act), HRel P ρ H w → All2 (V ρ) l a.tmps.toList → (∀ a' w', OpsOk P ρ H w a.defers l' H' a' w' → Q .normal a' w') → wpOpsIn (fe ro) k P ops Q is a w := by
  induction h with
  | nil l H => intro ρ w a hr hE hQ; exact hQ a w ⟨ρ, .refl hr, hE, rfl⟩
  | step ho hw hs rest ih =>
    intro ρ w a hr hE hQ
    unfold wpOpsIn
    rw [ho]
    simp only [wanted_ok hE]
    rw [if_pos hw]
    refine hs.sound hr (fun x _ hx => ev_ok hE hx) ro k fun ρ1 v1 w1 hp1 hv1 => ?_
    refine ih ρ1 w1 _ hp1.rel (put_ok (hE.mono fun _ _ h => h.mono hp1.le) hv1 _) ?_
    rintro a' w' ⟨ρ', hp', hE', hd'⟩
    exact hQ a' w' ⟨ρ', hp1.trans hp', hE', by rw [hd', put_defers]⟩
  | past ho hw rest ih =>
    intro ρ w a hr hE hQ
    unfold wpOpsIn
    rw [ho]
    simp only [wanted_ok hE]
    rw [if_neg (by simp [hw])]
    refine ⟨fun _ _ => trivial, ?_⟩
    refine ih ρ w _ hr (put_ok hE .undef _) ?_
    rintro a' w' ⟨ρ', hp', hE', hd'⟩
    exact hQ a' w' ⟨ρ', hp', hE', by rw [hd', put_defers]⟩

theorem ops_ok {ex : Run} (hex : ∀ c l H e l' H', ex c l H = some (e, l', H') → Sim P c l H e l' H') {ops : Array Oper} (ro : Option Nat) (k : Nat) {Q : Exit → Act → World → Prop} :
    ∀ (is : List Nat) (l : List Value) (H : Heap) (l' : List Value) (H' : Heap), opsD P ex ops is l H = some (l', H') → ∀ (ρ : Rho) (w : World) (a : Act), HRel P ρ H w → All2 (V ρ) l a.tmps.toList →
      (∀ a' w', OpsOk P ρ H w a.defers l' H' a' w' → Q .normal a' w') → wpOpsIn (fe ro) k P ops Q is a w :=
  fun is l H l' H' ho => (opsR_of hex is l H l' H' ho).sound ro k

theorem QD.then_ {c : Code} {l : List Value} {l1 : List Value} {H1 : Heap} {ro : Option Nat} {k B : Nat} {e2 : Ex} {l2 : List Value} {H2 : Heap} {d : Code} {a : Act}
    (h1 : Sim P c l H .normal l1 H1) (h2 : Sim P d l1 H1 e2 l2 H2) (hr : HRel P ρ H w) (hE : All2 (V ρ) l a.tmps.toList) (hl : LoopAt ro w) (hM : Marks B w a.defers) (hB : B ≤ w.heap.size) :
    c.wpIn (fe ro) k P (Exit.then (d.wpIn (fe ro) k P (QD P ρ H w B e2 l2 H2)) (QD P ρ H w B e2 l2 H2)) a w := by
  refine wpIn_mono (h1 ro k B ρ w a hr hE hl hM hB) ?_
  rintro e' a' w' ⟨he, ρ', hp, hE', hM'⟩
  subst he
  refine wpIn_mono (h2 ro k B ρ' w' a' hp.rel hE' (hl.post hp) hM' (Nat.le_trans hB hp.size)) ?_
  intro e3 a3 w3 hq
  exact hq.trans hp
end
end Go.Ds
/-
  Ds against the model: regions that draw their order.
-/
namespace Go.Ds
section
variable {P : Program} {ρ : Rho} {H : Heap} {w : World}

/-! ### Equal values -/
theorem veq1_eq {a b : Value} (h : veq1 a b = true) : a = b := by
  cases a <;> cases b <;> simp only [veq1, Bool.and_eq_true, decide_eq_true_eq, beq_iff_eq, Bool.false_eq_true] at h <;> try rfl
  · rw [h]
  · rw [h.1, h.2]
  · rename_i x y
    cases x with | mk x => cases y with | mk y => cases x; cases y; simp only at h; rw [h]
  · rw [h]
  · rw [h.1.1, Nat.eq_of_beq_eq_true h.1.2, Nat.eq_of_beq_eq_true h.2]
  · rw [h]

theorem veqL_eq : ∀ {a b : List Value}, veqL a b = true → a = b
  | [], [], _ => rfl
  | a :: l, b :: m, h => by
    simp only [veqL, Bool.and_eq_true] at h
    rw [veq1_eq h.1, veqL_eq h.2]
  | [], _ :: _, h => by simp [veqL] at h
  | _ :: _, [], h => by simp [veqL] at h

theorem veq_eq {a b : Value} (h : veq a b = true) : a = b := by
  unfold veq at h
  split at h
  · rename_i x y
    cases x; cases y
    have := veqL_eq h
    simp only at this
    rw [this]
  · exact veq1_eq h

/-! ### The run in text order -/
def StepT (P : Program) (ops : Array Oper) (i : Nat) (s s' : List Value × Heap) (v : Value) : Prop :=
  ∃ o, ops[i]? = some o ∧ s'.1 = put s.1 o.dst v ∧
    ((Region.wanted o (yieldedD ops s.1) = true ∧ StepR P o s.1 s.2 v s'.2) ∨ (Region.wanted o (yieldedD ops s.1) = false ∧ v = undef ∧ s'.2 = s.2))

theorem opsT_spec {ex : Run} (hex : ∀ c l H e l' H', ex c l H = some (e, l', H') → Sim P c l H e l' H') {ops : Array Oper} : ∀ (is : List Nat) (l : List Value) (H : Heap) (tr : List (List Value × Heap × Value)) (l' : List Value) (H' : Heap), opsT P ex ops is l H = some (tr, l', H') →
    ∃ (T : Nat → List Value × Heap) (val : Nat → Value), T 0 = (l, H) ∧ T is.length = (l', H') ∧ tr.length = is.length ∧ (∀ k, k < is.length → tr[k]? = some ((T k).1, (T k).2, val k)) ∧
      ∀ k i, is[k]? = some i → StepT P ops i (T k) (T (k + 1)) (val k)
  | [], l, H, tr, l', H', h => by
    simp only [opsT, Option.some.injEq, Prod.mk.injEq] at h
    obtain ⟨rfl, rfl, rfl⟩ := h
    exact ⟨fun _ => (l, H), fun _ => undef, rfl, rfl, rfl, by simp, by simp⟩
  | i :: is, l, H, tr, l', H', h => by
    have key : ∀ (l1 : List Value) (H1 : Heap) (v : Value), (opsT P ex ops is l1 H1).map (fun (t, r) => ((l, H, v) :: t, r)) = some (tr, l', H') → StepT P ops i (l, H) (l1, H1) v →
        ∃ (T : Nat → List Value × Heap) (val : Nat → Value), T 0 = (l, H) ∧ T (i :: is).length = (l', H') ∧ tr.length = (i :: is).length ∧ (∀ k, k < (i :: is).length → tr[k]? = some ((T k).1, (T k).2, val k)) ∧
          ∀ k j, (i :: is)[k]? = some j → StepT P ops j (T k) (T (k + 1)) (val k) := by
      intro l1 H1 v hm hst
      rw [Option.map_eq_some_iff] at hm
      obtain ⟨⟨tr1, l2, H2⟩, ho, hq⟩ := hm
      simp only [Prod.mk.injEq] at hq
      obtain ⟨rfl, rfl, rfl⟩ := hq
      obtain ⟨T, val, h0, h1, h2, h3, h4⟩ := opsT_spec hex is _ _ _ _ _ ho
      refine ⟨fun k => match k with | 0 => (l, H) | k + 1 => T k, fun k => match k with | 0 => v | k + 1 => val k, rfl, h1, by simp [h2], ?_, ?_⟩
      · intro k hk
        cases k with
        | zero => rfl
        | succ k => simpa using h3 k (by simpa using hk)
      · intro k j hj
        cases k with
        | zero =>
          simp at hj
          subst hj
          simp only [h0]
          exact hst
        | succ k => exact h4 k j (by simpa using hj)
    unfold opsT at h
    split at h
    · cases h
    · rename_i o ho
      split at h
      · rename_i hw
        split at h
        · rename_i v H1 hs
          simp only [force_eq, forceS_eq, forceH_eq] at h
          exact key _ _ _ h ⟨o, ho, rfl, .inl ⟨hw, stepR_of hex hs⟩⟩
        · cases h
      · rename_i hw
        simp only [forceS_eq, forceH_eq] at h
        exact key _ _ _ h ⟨o, ho, rfl, .inr ⟨by simpa using hw, rfl, rfl⟩⟩

/-! ### What the text says of the order -/
def bef (ops : Array Oper) (j i : Nat) : Bool := ((befs [] ops.toList).getD j 0).testBit i

def Closed (ops : Array Oper) (S : Nat → Prop) : Prop := ∀ j o, S j → ops[j]? = some o → ∀ e ∈ o.after, Region.binds .any e = true → S e.on

structure Draw (ops : Array Oper) : Prop where
  back : ∀ (j : Nat) (o : Oper) (e : Edge), ops[j]? = some o → e ∈ o.after → Region.binds .any e = true → e.on < j
  guard : ∀ (j : Nat) (o : Oper), ops[j]? = some o → isAlloc o.op = true → o.guard = none
  pair : ∀ (i j : Nat) (x y : Oper), i < j → ops[i]? = some x → ops[j]? = some y → pairOk ops (befs [] ops.toList) i j x y = true

theorem mem_zipIdx {ops : Array Oper} {i : Nat} {o : Oper} (h : ops[i]? = some o) : (o, i) ∈ ops.toList.zipIdx := by
  rw [List.mem_zipIdx_iff_getElem?]
  simpa using h

theorem draw_of {ops : Array Oper} (h : orderOk ops = true) : Draw ops := by
  unfold orderOk at h
  simp only [List.all_eq_true, Bool.and_eq_true, Prod.forall, Bool.or_eq_true, Bool.not_eq_true', decide_eq_true_eq, decide_eq_false_iff_not, Array.mem_toList_iff] at h
  refine ⟨fun j o e ho he hb => ?_, fun j o ho ha => ?_, fun i j x y hij hx hy => ?_⟩
  · rcases (h o j (mem_zipIdx ho)).1.1 e he with h1 | h1
    · rw [hb] at h1; cases h1
    · exact h1
  · rcases (h o j (mem_zipIdx ho)).1.2 with h1 | h1
    · rw [ha] at h1; cases h1
    · simpa using h1
  · rcases (h y j (mem_zipIdx hy)).2 x i (mem_zipIdx hx) with h1 | h1
    · exact absurd hij h1
    · exact h1

section
variable {ops : Array Oper} (D : Draw ops)
include D
theorem Draw.ne {i j : Nat} {x y : Oper} (hij : i < j) (hx : ops[i]? = some x) (hy : ops[j]? = some y) {d : Tmp} (hd : x.dst = some d) : y.dst ≠ some d := by
  have := D.pair i j x y hij hx hy
  simp only [pairOk, hd, Bool.and_eq_true, bne_iff_ne, ne_eq] at this
  exact this.1.1.1.2

theorem Draw.raw {i j : Nat} {x y : Oper} (hij : i < j) (hx : ops[i]? = some x) (hy : ops[j]? = some y) {d : Tmp} (hd : x.dst = some d) (hl : d ∈ y.looksAt ops) : bef ops j i = true := by
  have := D.pair i j x y hij hx hy
  simp only [pairOk, hd, Bool.and_eq_true, Bool.or_eq_true, Bool.not_eq_true'] at this
  rcases this.1.1.1.1 with h | h
  · simp [hl] at h
  · exact h

theorem Draw.war {i j : Nat} {x y : Oper} (hij : i < j) (hx : ops[i]? = some x) (hy : ops[j]? = some y) {d : Tmp} (hd : y.dst = some d) (hl : d ∈ x.looksAt ops) : bef ops j i = true := by
  have := D.pair i j x y hij hx hy
  simp only [pairOk, hd, Bool.and_eq_true, Bool.or_eq_true, Bool.not_eq_true'] at this
  rcases this.1.2 with h | h
  · simp [hl] at h
  · exact h

theorem Draw.fresh {i j : Nat} {x y : Oper} (hij : i < j) (hx : ops[i]? = some x) (hy : ops[j]? = some y) {d : Tmp} (hd : x.dst = some d) (ha : isAlloc x.op = true) (hl : d ∈ y.looksAt ops) : isMain y.op = true := by
  have := D.pair i j x y hij hx hy
  simp only [pairOk, hd, Bool.and_eq_true, Bool.or_eq_true, Bool.not_eq_true', ha] at this
  rcases this.1.1.2 with (h | h) | h
  · cases h
  · exact h
  · simp [hl] at h

theorem Draw.main {i j : Nat} {x y : Oper} (hij : i < j) (hx : ops[i]? = some x) (hy : ops[j]? = some y) (he : isMain x.op = true ∨ isAlloc x.op = true) (hm : isMain y.op = true) : bef ops j i = true := by
  have := D.pair i j x y hij hx hy
  simp only [pairOk, Bool.and_eq_true, Bool.or_eq_true, Bool.not_eq_true', hm, Bool.or_eq_false_iff] at this
  rcases this.2 with (h | h) | h
  · rcases he with he | he
    · rw [he] at h; cases h.1
    · rw [he] at h; cases h.2
  · cases h
  · exact h
end

theorem befs_get : ∀ (os : List Oper) (acc : List Nat), ∃ r : List Nat, befs acc os = acc ++ r ∧ r.length = os.length ∧ ∀ (k : Nat) (o : Oper), os[k]? = some o →
    r[k]? = some (o.after.toList.foldl (fun m e => if Region.binds .any e then (m ||| 2 ^ e.on) ||| (acc ++ r.take k).getD e.on 0 else m) 0)
  | [], acc => ⟨[], by simp [befs], rfl, by simp⟩
  | o :: os, acc => by
    obtain ⟨r, h1, h2, h3⟩ := befs_get os (acc ++ [o.after.toList.foldl (fun m e => if Region.binds .any e then (m ||| 2 ^ e.on) ||| acc.getD e.on 0 else m) 0])
    refine ⟨o.after.toList.foldl (fun m e => if Region.binds .any e then (m ||| 2 ^ e.on) ||| acc.getD e.on 0 else m) 0 :: r, by rw [befs, h1]; exact List.append_assoc _ _ _, by rw [List.length_cons, List.length_cons, h2], fun k x hx => ?_⟩
    cases k with
    | zero =>
      rw [List.getElem?_cons_zero] at hx
      obtain rfl := Option.some.inj hx
      rw [List.getElem?_cons_zero, List.take_zero, List.append_nil]
    | succ k =>
      have := h3 k x (by rwa [List.getElem?_cons_succ] at hx)
      rw [List.getElem?_cons_succ, List.take_succ_cons]
      rw [List.append_assoc] at this
      exact this

theorem fold_bit {acc : List Nat} {i : Nat} : ∀ (es : List Edge) (m : Nat), (es.foldl (fun m e => if Region.binds .any e then (m ||| 2 ^ e.on) ||| acc.getD e.on 0 else m) m).testBit i = true →
    m.testBit i = true ∨ ∃ e ∈ es, Region.binds .any e = true ∧ (i = e.on ∨ (acc.getD e.on 0).testBit i = true)
  | [], m, h => .inl h
  | e :: es, m, h => by
    rw [List.foldl_cons] at h
    rcases fold_bit es _ h with h1 | ⟨e', he, hb, hh⟩
    · by_cases hb : Region.binds .any e = true
      · rw [if_pos hb, Nat.testBit_or, Nat.testBit_or, Nat.testBit_two_pow] at h1
        simp only [Bool.or_eq_true, decide_eq_true_eq] at h1
        rcases h1 with (h1 | h1) | h1
        · exact .inl h1
        · exact .inr ⟨e, by simp, hb, .inl h1.symm⟩
        · exact .inr ⟨e, by simp, hb, .inr h1⟩
      · rw [if_neg hb] at h1; exact .inl h1
    · exact .inr ⟨e', by simp [he], hb, hh⟩

/-- What comes ahead of an operation whose own edges are met has come. -/
theorem Draw.bef {ops : Array Oper} (D : Draw ops) {S : Nat → Prop} (hS : Closed ops S) : ∀ (j : Nat) (o : Oper), ops[j]? = some o → (∀ e ∈ o.after, Region.binds .any e = true → S e.on) → ∀ i, bef ops j i = true → S i := by
  intro j
  induction j using Nat.strongRecOn with
  | _ j ih =>
    intro o ho hr i hb
    obtain ⟨r, h1, h2, h3⟩ := befs_get ops.toList []
    simp only [List.nil_append] at h1 h3
    unfold Go.Ds.bef at hb
    rw [h1, List.getD_eq_getElem?_getD, h3 j o (by simpa using ho), Option.getD_some] at hb
    rcases fold_bit _ _ hb with h | ⟨e, he, hbind, hh⟩
    · simp at h
    · have he' : e ∈ o.after := by simpa using he
      have hlt := D.back j o e ho he' hbind
      have hSe := hr e he' hbind
      rcases hh with rfl | hh
      · exact hSe
      · have hj : j < ops.size := (Array.getElem?_eq_some_iff.1 ho).1
        have hoe : ops[e.on]? = some (ops[e.on]'(by omega)) := Array.getElem?_eq_some_iff.2 ⟨by omega, rfl⟩
        refine ih e.on hlt _ hoe (fun e' he' hb' => hS _ _ hSe hoe e' he' hb') i ?_
        unfold Go.Ds.bef
        rw [h1]
        rw [List.getD_eq_getElem?_getD, List.getElem?_take_of_lt hlt] at hh
        rw [List.getD_eq_getElem?_getD]
        exact hh

/-! ### Operations that do not ask memory -/
theorem pure_any (H2 : Heap) {o : Oper} {l : List Value} {v : Value} {H' : Heap} (hm : isMain o.op = false) (ha : isAlloc o.op = false) (hr : isRead o.op = false) (hd : opD P o l H = some (v, H')) :
    H' = H ∧ opD P o l H2 = some (v, H2) := by
  obtain ⟨dst, op, type, pos, after, guard⟩ := o
  have keep : ∀ {x : Option Value} {H' : Heap}, x.map (fun v => (v, H)) = some (v, H') → H' = H ∧ x = some v := by
    intro x H' h
    cases x with
    | none => cases h
    | some y => injection h with h; injection h with h1 h2; exact ⟨h2.symm, by rw [h1]⟩
  have plain : ∀ {H' : Heap}, plainD P ⟨dst, op, type, pos, after, guard⟩ l H = some (v, H') → H' = H ∧ plainD P ⟨dst, op, type, pos, after, guard⟩ l H2 = some (v, H2) := by
    intro H' h
    unfold plainD at h ⊢
    by_cases h1 : (Oper.op ⟨dst, op, type, pos, after, guard⟩).operands.toList.all (fun x => flat (ev l x)) = true
    · rw [if_pos h1] at h ⊢
      cases h2 : pureRun P (execOp (ev l) ⟨dst, op, type, pos, after, guard⟩) with
      | none => rw [h2] at h; cases h
      | some nx =>
        rw [h2] at h
        cases nx with
        | value v2 =>
          simp only at h ⊢
          by_cases h3 : flat v2 = true
          · rw [if_pos h3] at h ⊢; injection h with h; injection h with h4 h5; subst h4 h5; exact ⟨rfl, rfl⟩
          · rw [if_neg h3] at h; cases h
        | _ => cases h
    · rw [if_neg h1] at h; cases h
  cases op with
  | call c =>
    simp only [isMain, isRead] at hm hr
    split at hm
    · rename_i h1; simp [h1] at hr
    · rename_i h1; simp only [opD, h1] at hd ⊢; exact plain hd
    · rename_i h1; simp only [opD, h1] at hd ⊢; exact plain hd
    · cases hm
  | field t x f =>
    simp only [opD] at hd ⊢
    split at hd
    · rename_i h1; simp only [h1, if_true]; exact plain hd
    · rename_i h1
      simp only [h1]
      split at hd
      · rename_i cs h2
        simp only [Option.bind_eq_some_iff] at hd
        obtain ⟨fd, h3, hd⟩ := hd
        split at hd
        · rename_i h4
          simp only [Option.map_eq_some_iff] at hd
          obtain ⟨n, h5, hd⟩ := hd
          injection hd with h6 h7; subst h6 h7
          exact ⟨rfl, by simp only [h2, h3, Option.bind_some, h4, h5, Option.map_some, Bool.false_eq_true, if_false]⟩
        · rename_i h4
          simp only [Option.map_eq_some_iff] at hd
          obtain ⟨n, h5, hd⟩ := hd
          injection hd with h6 h7; subst h6 h7
          exact ⟨rfl, by simp only [h2, h3, Option.bind_some, h4, h5, Option.map_some, Bool.false_eq_true, if_false]⟩
        · cases hd
      · cases hd
  | slice t x lo hi mx =>
    cases mx with
    | some _ => simp only [opD] at hd; cases hd
    | none =>
      simp only [opD] at hd ⊢
      split at hd
      · rename_i h1; simp only [h1, if_true]; exact plain hd
      · rename_i h1
        obtain ⟨h2, h3⟩ := keep hd
        exact ⟨h2, by simp [h1, h3]⟩
  | fieldAddr s x f =>
    simp only [opD] at hd ⊢
    split at hd
    · rename_i A i e h1
      simp only [Option.bind_eq_some_iff] at hd
      obtain ⟨fd, h3, n, h4, hd⟩ := hd
      split at hd
      · cases hd
      · rename_i h5
        injection hd with hd; injection hd with h6 h7; subst h6 h7
        exact ⟨rfl, by simp only [h1, h3, h4, Option.bind_some]; rw [if_neg h5]⟩
    · cases hd
  | indexAddr t x ix =>
    simp only [opD] at hd ⊢
    split at hd
    all_goals first
      | cases hd; done
      | (rename_i h1 h2 h3
         simp only [Option.bind_eq_some_iff] at hd
         obtain ⟨n, h4, hd⟩ := hd
         split at hd
         · rename_i h5
           injection hd with hd; injection hd with h6 h7; subst h6 h7
           exact ⟨rfl, by simp only [h1, h2, h3, h4, Option.bind_some, h5, if_true]⟩
         · cases hd)
  | binOp bo t x y z =>
    simp only [opD] at hd ⊢
    split at hd
    · rename_i h2 h3
      split at hd
      · rename_i h4; injection hd with hd; injection hd with h6 h7; subst h6 h7; exact ⟨rfl, by first | rw [if_pos h4] | simp only [h2, h3, h4, if_true]⟩
      · cases hd
    · rename_i h2 h3
      split at hd
      · rename_i h4; injection hd with hd; injection hd with h6 h7; subst h6 h7; exact ⟨rfl, by first | rw [if_pos h4] | simp only [h2, h3, h4, if_true]⟩
      · cases hd
    · rename_i k a k' b h2 h3
      split at hd
      · rename_i h4
        rw [if_pos h4]
        split at hd
        · rename_i r h5; injection hd with hd; injection hd with h6 h7; subst h6 h7; exact ⟨rfl, by first | rfl | simp only [h5]⟩
        · rename_i h5; first | exact plain hd | (simp only [h5]; exact plain hd)
      · rename_i h4; rw [if_neg h4]; exact plain hd
    · first | exact plain hd | (simp only [*]; exact plain hd)
  | build t parts =>
    simp only [opD] at hd ⊢
    split at hd
    · rename_i h1
      simp only [Option.map_eq_some_iff] at hd
      obtain ⟨cs, h2, hd⟩ := hd
      injection hd with h6 h7; subst h6 h7
      exact ⟨rfl, by rw [if_pos h1, h2]; rfl⟩
    · cases hd
  | unOp uo t x =>
    simp only [opD] at hd ⊢
    split at hd
    · rename_i h1; injection hd with hd; injection hd with h6 h7; subst h6 h7; exact ⟨rfl, by simp only [h1]⟩
    · first | exact plain hd | (simp only [*]; exact plain hd)
  | convert _ _ _ => simp only [opD] at hd ⊢; exact plain hd
  | index _ _ _ => simp only [opD] at hd ⊢; exact plain hd
  | makeInterface _ _ => simp only [opD] at hd ⊢; exact plain hd
  | move x => simp only [opD] at hd ⊢; injection hd with hd; injection hd with h6 h7; subst h6 h7; exact ⟨rfl, by first | rfl | simp only [h1]⟩
  | assign x => simp only [opD] at hd ⊢; injection hd with hd; injection hd with h6 h7; subst h6 h7; exact ⟨rfl, by first | rfl | simp only [h1]⟩
  | pick c x y =>
    simp only [opD] at hd ⊢
    split at hd
    · rename_i h1; injection hd with hd; injection hd with h6 h7; subst h6 h7; exact ⟨rfl, by first | rfl | simp only [h1]⟩
    · cases hd
  | nilCheck x =>
    simp only [opD] at hd ⊢
    split at hd
    · rename_i h1; injection hd with hd; injection hd with h6 h7; subst h6 h7; exact ⟨rfl, by first | rfl | simp only [h1]⟩
    · rename_i h1; injection hd with hd; injection hd with h6 h7; subst h6 h7; exact ⟨rfl, by first | rfl | simp only [h1]⟩
    · cases hd
  | extract x i =>
    simp only [opD] at hd ⊢
    split at hd
    · obtain ⟨h2, h3⟩ := keep hd; exact ⟨h2, by first | (rw [h3]; rfl) | simp [*]⟩
    · cases hd
  | makeFunc fn first captured =>
    simp only [opD] at hd ⊢
    split at hd
    · split at hd
      · rename_i h1; injection hd with hd; injection hd with h6 h7; subst h6 h7; exact ⟨rfl, by rw [if_pos h1]⟩
      · cases hd
    · cases hd
  | alloc t => simp [isAlloc] at ha
  | load t x => simp [isRead] at hr
  | lookup a b c d => simp [isRead] at hr
  | _ => first | (simp only [opD] at hd; cases hd; done) | (simp [isMain] at hm; done)

theorem read_same {o : Oper} {l : List Value} {v : Value} {H' : Heap} (hr : isRead o.op = true) (hm : isMain o.op = false) (hd : opD P o l H = some (v, H')) : H' = H := by
  obtain ⟨dst, op, type, pos, after, guard⟩ := o
  have keep : ∀ {x : Option Value} {H' : Heap}, x.map (fun v => (v, H)) = some (v, H') → H' = H := by
    intro x H' h
    cases x with
    | none => cases h
    | some y => injection h with h; injection h with h1 h2; exact h2.symm
  cases op with
  | load t x => simp only [opD] at hd; exact keep hd
  | lookup a b c d => simp only [opD] at hd; cases hd
  | call c =>
    simp only [isRead] at hr
    split at hr
    · rename_i h1
      simp only [opD, h1] at hd
      split at hd
      · split at hd
        · exact keep hd
        · exact keep hd
        · exact keep hd
        · cases hd
      · cases hd
    · cases hr
  | _ => simp [isRead] at hr
end
end Go.Ds
/-
  Ds against the model: regions that draw their order, the proof.
-/
namespace Go.Ds
section
variable {P : Program} {ρ : Rho} {H : Heap} {w : World}

/-- A block of the world that nothing stands for is taken in. -/
theorem HRel.adopt (h : HRel P ρ H w) (cs : List Value) (ty : TypeId) (p : Place) (hoff : Off ρ p.b) (hlt : p.b < w.heap.size)
    (hcell : CellsAt P (ρ.put H.length cs.length p) w cs ty true cs.length cs.length p) :
    HRel P (ρ.put H.length cs.length p) (H.cons (.cells cs ty true cs.length 0)) w := by
  have hno : ∀ f, ρ H.length f = none := fun f => rho_none h f
  have hle : ρ.Le (ρ.put H.length cs.length p) := .put (hno _)
  have hold : ∀ A f q, (ρ.put H.length cs.length p) A f = some q → (A = H.length ∧ f = cs.length ∧ q = p) ∨ (A < H.length ∧ ρ A f = some q ∧ q.b ≠ p.b) := fun A f q hq => by
    by_cases hh : A = H.length ∧ f = cs.length
    · obtain ⟨rfl, rfl⟩ := hh; rw [Rho.put_same] at hq; exact .inl ⟨rfl, rfl, (Option.some.inj hq).symm⟩
    · rw [Rho.put_ne hh] at hq; exact .inr ⟨(h.dom _ _ _ hq).1, hq, hoff _ _ _ hq⟩
  have hget_old : ∀ A, A < H.length → hget (H.cons (.cells cs ty true cs.length 0)) A = hget H A := fun A hA => hget_cons_old _ hA
  refine ⟨?_, ?_, ?_, ?_, ?_, ?_, fun A hA => by
    by_cases he : A = H.length
    · subst he; rw [hget_cons_new]; rfl
    · rw [length_cons] at hA; rw [hget_old A (by omega)]; exact h.full A (by omega)⟩
  · intro A f q hq
    rcases hold A f q hq with ⟨rfl, rfl, rfl⟩ | ⟨hA, hq', _⟩
    · exact ⟨by simp, hlt⟩
    · exact ⟨by simp; omega, (h.dom _ _ _ hq').2⟩
  · intro A cs' ty' rw' lo' ver' hg
    have hA : A < (H.cons (.cells cs ty true cs.length 0)).length := hget_lt hg
    by_cases he : A = H.length
    · subst he
      rw [hget_cons_new] at hg
      injection (Option.some.inj hg) with e1 e2 e3 e4 e5
      subst e1 e2 e3 e4 e5
      refine ⟨⟨p, Rho.put_same _ _ _ _⟩, fun f q hq => ?_⟩
      rcases hold _ f q hq with ⟨_, rfl, rfl⟩ | ⟨hlt, _, _⟩
      · exact hcell
      · exact absurd hlt (Nat.lt_irrefl _)
    · have hA' : A < H.length := by simp at hA; omega
      rw [hget_old A hA'] at hg
      obtain ⟨⟨q, hq⟩, hall⟩ := h.cells _ _ _ _ _ _ hg
      refine ⟨⟨q, hle _ _ _ hq⟩, fun f q hq => ?_⟩
      rcases hold _ f q hq with ⟨rfl, _, _⟩ | ⟨_, hq', _⟩
      · exact absurd hA' (Nat.lt_irrefl _)
      · exact (hall f q hq').world hle rfl
  · intro A es ck ver hg
    have hA : A < (H.cons (.cells cs ty true cs.length 0)).length := hget_lt hg
    by_cases he : A = H.length
    · subst he; rw [hget_cons_new] at hg; cases hg
    · have hA' : A < H.length := by simp at hA; omega
      rw [hget_old A hA'] at hg
      obtain ⟨q, es', hq, hw, hall⟩ := h.map _ _ _ _ hg
      exact ⟨q, es', hle _ _ _ hq, hw, hall.mono fun _ _ x => x.mono hle⟩
  · intro A r hg
    have hA : A < (H.cons (.cells cs ty true cs.length 0)).length := hget_lt hg
    by_cases he : A = H.length
    · subst he; rw [hget_cons_new] at hg; cases hg
    · have hA' : A < H.length := by simp at hA; omega
      rw [hget_old A hA'] at hg
      obtain ⟨q, r', hq, hw, hall⟩ := h.loop _ _ hg
      exact ⟨q, r', hle _ _ _ hq, hw, hall.mono hle⟩
  · intro A f q blk' hq hg
    rcases hold A f q hq with ⟨rfl, rfl, rfl⟩ | ⟨hA, hq', _⟩
    · rw [hget_cons_new] at hg
      obtain rfl := Option.some.inj hg
      exact .inl rfl
    · rw [hget_old A hA] at hg
      exact h.one _ _ _ _ hq' hg
  · intro A f q A2 f2 q2 blk' hq hq2 hbb hg hwr
    rcases hold A f q hq with ⟨rfl, rfl, rfl⟩ | ⟨hA, hq', hqb⟩
    · rcases hold A2 f2 q2 hq2 with ⟨rfl, rfl, rfl⟩ | ⟨hA2, hq2', hqb2⟩
      · exact ⟨rfl, rfl⟩
      · exact absurd hbb.symm hqb2
    · rcases hold A2 f2 q2 hq2 with ⟨rfl, rfl, rfl⟩ | ⟨hA2, hq2', hqb2⟩
      · exact absurd hbb hqb
      · rw [hget_old A hA] at hg
        exact h.excl _ _ _ _ _ _ _ hq' hq2' hbb hg hwr

theorem Post.adopt {ρ0 : Rho} {H0 : Heap} {W0 : World} (h : Post P ρ0 H0 W0 ρ H w) (cs : List Value) (ty : TypeId) (p : Place) (hoff : Off ρ p.b) (hlt : p.b < w.heap.size) (hW : W0.heap.size ≤ p.b)
    (hcell : CellsAt P (ρ.put H.length cs.length p) w cs ty true cs.length cs.length p) :
    Post P ρ0 H0 W0 (ρ.put H.length cs.length p) (H.cons (.cells cs ty true cs.length 0)) w := by
  have hle : ρ.Le (ρ.put H.length cs.length p) := .put (rho_none h.rel _)
  have hold : ∀ A f q, (ρ.put H.length cs.length p) A f = some q → q = p ∨ (A < H.length ∧ ρ A f = some q) := fun A f q hq => by
    by_cases hh : A = H.length ∧ f = cs.length
    · obtain ⟨rfl, rfl⟩ := hh; rw [Rho.put_same] at hq; exact .inl (Option.some.inj hq).symm
    · rw [Rho.put_ne hh] at hq; exact .inr ⟨(h.rel.dom _ _ _ hq).1, hq⟩
  refine ⟨h.le.trans hle, h.rel.adopt cs ty p hoff hlt hcell, by have := h.len; simp; omega, h.size, h.os, h.tape, h.output, fun b hb hw => ⟨(h.frame b hb hw).1, ?_⟩, h.loops, fun b hb hw A f q hq => ?_⟩
  · rintro ⟨A, f, q, blk, hq, rfl, hg, hwr⟩
    rcases hold A f q hq with rfl | ⟨hA, hq'⟩
    · omega
    · rw [hget_cons_old _ hA] at hg
      exact (h.frame _ hb hw).2 ⟨A, f, q, blk, hq', rfl, hg, hwr⟩
  · rcases hold A f q hq with rfl | ⟨hA, hq'⟩
    · omega
    · exact h.img b hb hw _ _ _ hq'

/-- What 'new' does, and that it may come later. -/
theorem alloc_run {o : Oper} {t : TypeId} (ho : o.op = .alloc t) {l : List Value} {v : Value} {H' : Heap} (hd : opD P o l H = some (v, H')) :
    ∃ cs : List Value, H' = H.cons (.cells cs t true cs.length 0) ∧ v = .pointer (some ⟨H.length, 0, some cs.length⟩) ∧
      (∀ (w : World) (a : Act), (execOp a.eval o).run P w = .ok (.value (.pointer (some ⟨w.heap.size, 0, none⟩))) (w.alloc (.cells cs.toArray t))) ∧
      ∀ (ρ : Rho) (w : World) (b : Nat), w.heap[b]? = some (.cells cs.toArray t) → CellsAt P ρ w cs t true cs.length cs.length ⟨b, 0, cs.length, cs.length⟩ := by
  obtain ⟨dst, op, type, pos, after, guard⟩ := o
  simp only at ho
  subst ho
  simp only [opD, Option.bind_eq_some_iff] at hd
  obtain ⟨z, hz, hd⟩ := hd
  split at hd
  case isFalse => cases hd
  rename_i hf
  unfold newD at hd
  simp only at hd
  split at hd
  case isFalse => cases hd
  rename_i hcond
  simp only [Bool.and_eq_true, beq_iff_eq] at hcond
  obtain ⟨hone, hsz⟩ := hcond
  injection (Option.some.inj hd) with e1 e2
  subst e1 e2
  refine ⟨z.cells.toList, by rw [rowD_eq], rfl, fun w a => ?_, fun ρ w b hb => ?_⟩
  · have hr2 : (Instr.alloc t true (.tuple #[])).run P w = .ok (.pointer (some ⟨w.heap.size, 0, none⟩)) (w.alloc (.cells z.cells.toList.toArray t)) := by
      simp only [Instr.alloc, Sem.run_bind, run_zeroP hz, Result.andThen_ok]
      simp [newVar, newRow]
    simp only [execOp, Sem.run_bind, hr2, Result.andThen_ok, Sem.run_pure]
  · have hl : All2 (C1 ρ) z.cells.toList z.cells.toList := (V.v1 (ρ := ρ) (V1.of_flat hf)).cells hone
    refine ⟨Nat.le_refl _, hsz, by simp, z.cells.toList.toArray, t, (0, 0), hb, by simp, fun _ => rfl, fun _ i c hi _ hc => ?_⟩
    obtain ⟨c', hc', hr⟩ := hl.get i c hc
    exact ⟨c', by simpa [Place.at] using hc', hr⟩

/-! ### Slots -/
theorem ev_put (l : List Value) (d : Option Tmp) (v : Value) (t : Tmp) : ev (put l d v) (.tmp t) = if d = some t ∧ t < l.length then v else ev l (.tmp t) := by
  cases d with
  | none => simp [put]
  | some k =>
    simp only [ev, get_eq, put, setL_eq, List.getD_eq_getElem?_getD, List.getElem?_set, Option.some.injEq]
    by_cases hk : k = t
    · subst hk
      by_cases hl : k < l.length
      · simp [hl]
      · simp [hl]
    · simp [hk]

theorem eval_put (a : Act) (d : Option Tmp) (v : Value) (t : Tmp) : (a.put d v).eval (.tmp t) = if d = some t ∧ t < a.tmps.size then v else a.eval (.tmp t) := by
  cases d with
  | none => simp [Act.put]
  | some k =>
    simp only [Act.put, Act.eval, Option.some.injEq]
    by_cases hk : k = t
    · subst hk
      by_cases hl : k < a.tmps.size
      · simp [hl]
      · simp [hl]
    · simp [hk]

theorem put_length (l : List Value) (d : Option Tmp) (v : Value) : (put l d v).length = l.length := by
  cases d <;> simp [put, setL_eq]

theorem put_size (a : Act) (d : Option Tmp) (v : Value) : (a.put d v).tmps.size = a.tmps.size := by
  cases d <;> simp [Act.put]

theorem StepR.plain {o : Oper} {l : List Value} {v : Value} {H' : Heap} (h : StepR P o l H v H') (hm : isMain o.op = false) : Go.Ds.opD P o l H = some (v, H') := by
  refine h.opD fun c f hc hf => ?_
  simp [isMain, hc, hf] at hm

/-! ### The invariant -/
/-- The text's run: states ahead of each operation, what each gives. -/
structure Text (P : Program) (ops : Array Oper) (T : Nat → List Value × Heap) (val : Nat → Value) : Prop where
  step : ∀ k, k < ops.size → StepT P ops k (T k) (T (k + 1)) (val k)

section
variable {ops : Array Oper} {T : Nat → List Value × Heap} {val : Nat → Value}

theorem Text.length (X : Text P ops T val) : ∀ k, k ≤ ops.size → (T k).1.length = (T 0).1.length
  | 0, _ => rfl
  | k + 1, hk => by
    obtain ⟨o, _, h, _⟩ := X.step k (by omega)
    rw [h, put_length, X.length k (by omega)]

theorem Text.at (X : Text P ops T val) {k : Nat} {o : Oper} (ho : ops[k]? = some o) : (T (k + 1)).1 = put (T k).1 o.dst (val k) ∧
    ((Region.wanted o (yieldedD ops (T k).1) = true ∧ StepR P o (T k).1 (T k).2 (val k) (T (k + 1)).2) ∨ (Region.wanted o (yieldedD ops (T k).1) = false ∧ val k = undef ∧ (T (k + 1)).2 = (T k).2)) := by
  obtain ⟨o', ho', h⟩ := X.step k (Array.getElem?_eq_some_iff.1 ho).1
  rw [ho] at ho'
  obtain rfl := Option.some.inj ho'
  exact h

/-- A slot that no operation of the text so far has written. -/
theorem Text.old (X : Text P ops T val) {t : Tmp} : ∀ k, k ≤ ops.size → (∀ i o, i < k → ops[i]? = some o → o.dst ≠ some t) → ev (T k).1 (.tmp t) = ev (T 0).1 (.tmp t)
  | 0, _, _ => rfl
  | k + 1, hk, h => by
    obtain ⟨o, ho, h1, _⟩ := X.step k (by omega)
    rw [h1, ev_put, if_neg (fun hh => h k o (by omega) ho hh.1), X.old k (by omega) fun i o' hi => h i o' (by omega)]

/-- A slot that an operation has written. -/
theorem Text.new (X : Text P ops T val) (D : Draw ops) {i : Nat} {o : Oper} (ho : ops[i]? = some o) {t : Tmp} (hd : o.dst = some t) (ht : t < (T 0).1.length) : ∀ k, i < k → k ≤ ops.size → ev (T k).1 (.tmp t) = val i
  | 0, h, _ => absurd h (Nat.not_lt_zero _)
  | k + 1, hk, hn => by
    obtain ⟨o', ho', h1, _⟩ := X.step k (by omega)
    rw [h1, ev_put]
    by_cases hik : i = k
    · subst hik
      rw [ho] at ho'
      obtain rfl := Option.some.inj ho'
      rw [if_pos ⟨hd, by rw [X.length _ (by omega)]; exact ht⟩]
    · rw [if_neg fun hh => D.ne (by omega) ho ho' hd hh.1]
      exact X.new D ho hd ht k (by omega) (by omega)

/-- Operations that are no effect leave the text's heap. -/
theorem Text.still (X : Text P ops T val) {k : Nat} {o : Oper} (ho : ops[k]? = some o) (hm : isMain o.op = false) (ha : isAlloc o.op = false) : (T (k + 1)).2 = (T k).2 := by
  rcases (X.at ho).2 with ⟨_, h⟩ | ⟨_, _, h⟩
  · have hd := h.plain hm
    cases hr : isRead o.op with
    | true => exact read_same hr hm hd
    | false => exact (pure_any .nil hm ha hr hd).1
  · exact h

theorem Text.stills (X : Text P ops T val) {i : Nat} : ∀ k, i ≤ k → k ≤ ops.size → (∀ j o, i ≤ j → j < k → ops[j]? = some o → isMain o.op = false ∧ isAlloc o.op = false) → (T k).2 = (T i).2
  | 0, h, _, _ => by rw [Nat.le_zero.1 h]
  | k + 1, h, hk, hh => by
    by_cases he : i = k + 1
    · rw [he]
    · obtain ⟨o, ho, _⟩ := X.step k (by omega)
      have := hh k o (by omega) (by omega) ho
      rw [X.still ho this.1 this.2, X.stills k (by omega) (by omega) fun j o h1 h2 => hh j o h1 (by omega)]

/-- What holds ahead of each operation, in whatever order they come. -/
structure Inv (P : Program) (ops : Array Oper) (T : Nat → List Value × Heap) (val : Nat → Value) (ρ0 : Rho) (W0 : World) (ds : List Deferred) (S : Nat → Prop) (pl : Nat → Nat) (m : Nat) (ρ : Rho) (a : Act) (w : World) : Prop where
  le : m ≤ ops.size
  post : Post P ρ0 (T 0).2 W0 ρ (T m).2 w
  closed : Closed ops S
  mains : ∀ i o, ops[i]? = some o → isMain o.op = true → (S i ↔ i < m)
  allocs : ∀ i o, ops[i]? = some o → isAlloc o.op = true → i < m → S i
  pend : ∀ i o t, ops[i]? = some o → o.op = .alloc t → m ≤ i → S i → W0.heap.size ≤ pl i ∧ pl i < w.heap.size ∧ Off ρ (pl i) ∧
    (∃ cs : List Value, w.heap[pl i]? = some (.cells cs.toArray t) ∧ (T (i + 1)).2 = (T i).2.cons (.cells cs t true cs.length 0) ∧ val i = .pointer (some ⟨(T i).2.length, 0, some cs.length⟩) ∧
      (∀ (ρ : Rho) (w : World) (b : Nat), w.heap[b]? = some (.cells cs.toArray t) → CellsAt P ρ w cs t true cs.length cs.length ⟨b, 0, cs.length, cs.length⟩)) ∧
    ∀ d, o.dst = some d → d < (T 0).1.length → a.eval (.tmp d) = .pointer (some ⟨pl i, 0, none⟩)
  apart : ∀ i j x y, ops[i]? = some x → ops[j]? = some y → isAlloc x.op = true → isAlloc y.op = true → m ≤ i → m ≤ j → S i → S j → pl i = pl j → i = j
  size : a.tmps.size = (T 0).1.length
  old : ∀ t, (∀ i o, S i → ops[i]? = some o → o.dst ≠ some t) → V ρ (ev (T 0).1 (.tmp t)) (a.eval (.tmp t))
  new : ∀ i o t, S i → ops[i]? = some o → o.dst = some t → t < (T 0).1.length → (isAlloc o.op = true → i < m) → V ρ (val i) (a.eval (.tmp t))
  defers : a.defers = ds

variable {ρ0 : Rho} {W0 : World} {ds : List Deferred} {S : Nat → Prop} {pl : Nat → Nat} {m : Nat} {a : Act}

theorem ev_out {l : List Value} {t : Tmp} (h : l.length ≤ t) : ev l (.tmp t) = undef := by
  simp [ev, get_eq, List.getD_eq_getElem?_getD, List.getElem?_eq_none h]

theorem eval_out {a : Act} {t : Tmp} (h : a.tmps.size ≤ t) : a.eval (.tmp t) = undef := by
  simp [Act.eval, h]

/-- What an operation that may come looks at. -/
theorem Inv.looks (I : Inv P ops T val ρ0 W0 ds S pl m ρ a w) (X : Text P ops T val) (D : Draw ops) {i : Nat} {o : Oper} (ho : ops[i]? = some o) (hS : ¬ S i) (hr : ∀ e ∈ o.after, Region.binds .any e = true → S e.on) (hm : isMain o.op = true → m = i)
    {t : Tmp} (ht : t ∈ o.looksAt ops) : V ρ (ev (T i).1 (.tmp t)) (a.eval (.tmp t)) := by
  have hi : i < ops.size := (Array.getElem?_eq_some_iff.1 ho).1
  by_cases hl : (T 0).1.length ≤ t
  · rw [ev_out (by rw [X.length i (by omega)]; exact hl), eval_out (by rw [I.size]; exact hl)]
    exact .undef
  have hl : t < (T 0).1.length := Nat.lt_of_not_le hl
  by_cases hk : ∃ k x, k < i ∧ ops[k]? = some x ∧ x.dst = some t
  · obtain ⟨k, x, hki, hx, hd⟩ := hk
    have hSk : S k := D.bef I.closed i o ho hr k (D.raw hki hx ho hd ht)
    rw [X.new D hx hd hl i hki (by omega)]
    exact I.new k x t hSk hx hd hl fun hal => by
      have := D.fresh hki hx ho hd hal ht
      rw [hm this]
      exact hki
  · rw [X.old i (by omega) fun k x hki hx hd => hk ⟨k, x, hki, hx, hd⟩]
    refine I.old t fun k x hSk hx hd => ?_
    rcases Nat.lt_trichotomy k i with h | h | h
    · exact hk ⟨k, x, h, hx, hd⟩
    · exact hS (h ▸ hSk)
    · exact hS (D.bef I.closed k x hx (fun e he hb => I.closed k x hSk hx e he hb) i (D.war h ho hx hd ht))

theorem Inv.operands (I : Inv P ops T val ρ0 W0 ds S pl m ρ a w) (X : Text P ops T val) (D : Draw ops) {i : Nat} {o : Oper} (ho : ops[i]? = some o) (hS : ¬ S i) (hr : ∀ e ∈ o.after, Region.binds .any e = true → S e.on) (hm : isMain o.op = true → m = i) :
    ∀ x, x ∈ o.op.operands → operandOk x = true → V ρ (ev (T i).1 x) (a.eval x) := fun x hx hok => by
  cases x with
  | tmp t => exact I.looks X D ho hS hr hm (by
      unfold Oper.looksAt
      simp only [List.mem_append, List.mem_filterMap]
      exact .inl ⟨.tmp t, by simpa using hx, rfl⟩)
  | const v => exact .of_flat hok
  | global g => simp [operandOk] at hok
  | func f => exact .v1 (.c1 (.fn trivial trivial))

theorem yielded_of {l : List Value} {a : Act} {ops : Array Oper} {j : Nat} (h : ∀ d, ((ops[j]?).bind (·.dst)) = some d → V ρ (ev l (.tmp d)) (a.eval (.tmp d))) : yielded ops a.tmps j = yieldedD ops l j := by
  unfold yielded yieldedD
  cases hd : (ops[j]?).bind (·.dst) with
  | none => rfl
  | some d =>
    have hv := h d hd
    simp only [ev, get_eq, Act.eval, List.getD_eq_getElem?_getD] at hv
    simp only [Option.bind_some]
    cases h1 : l[d]? with
    | none =>
      rw [h1, Option.getD_none] at hv
      have := hv.eq_of_flat rfl
      cases h2 : a.tmps[d]? with
      | none => rfl
      | some v' =>
        have : v' = undef := by simpa [h2] using this
        subst this
        rfl
    | some v =>
      rw [h1, Option.getD_some] at hv
      cases h2 : a.tmps[d]? with
      | none =>
        cases v with
        | bool b => have := hv.bool_inv; simp [h2] at this; cases this
        | _ => rfl
      | some v' =>
        have hv : V ρ v v' := by simpa [h2] using hv
        cases v' with
        | bool b => rw [hv.of_bool]
        | _ =>
          cases v with
          | bool b => have := hv.bool_inv; cases this
          | _ => rfl

theorem Inv.wanted (I : Inv P ops T val ρ0 W0 ds S pl m ρ a w) (X : Text P ops T val) (D : Draw ops) {i : Nat} {o : Oper} (ho : ops[i]? = some o) (hS : ¬ S i) (hr : ∀ e ∈ o.after, Region.binds .any e = true → S e.on) (hm : isMain o.op = true → m = i) :
    Region.wanted o (yielded ops a.tmps) = Region.wanted o (yieldedD ops (T i).1) := by
  unfold Region.wanted
  cases hg : o.guard with
  | none => rfl
  | some g =>
    simp only
    rw [yielded_of (l := (T i).1) fun d hd => I.looks X D ho hS hr hm (by
      unfold Oper.looksAt
      simp only [hg, List.mem_append]
      exact .inr (by rw [hd]; simp))]

theorem isAlloc_iff {o : Op} : isAlloc o = true ↔ ∃ t, o = .alloc t := by
  cases o <;> simp [isAlloc]

theorem not_wr_of_off {b : Nat} (h : Off ρ b) : ¬ Wr ρ H b := by
  rintro ⟨A, e, p, blk, hp, hb, _⟩
  exact h _ _ _ hp hb

/-- Past an operation that is no effect. -/
theorem Inv.skip (I : Inv P ops T val ρ0 W0 ds S pl m ρ a w) (X : Text P ops T val) {o : Oper} (ho : ops[m]? = some o) (hm : isMain o.op = false) (ha : isAlloc o.op = false) : Inv P ops T val ρ0 W0 ds S pl (m + 1) ρ a w := by
  have hlt : m < ops.size := (Array.getElem?_eq_some_iff.1 ho).1
  have hno : ∀ i x, ops[i]? = some x → (isMain x.op = true ∨ isAlloc x.op = true) → i ≠ m := fun i x hx he hi => by
    subst hi
    rw [ho] at hx
    obtain rfl := Option.some.inj hx
    rcases he with he | he
    · rw [hm] at he; cases he
    · rw [ha] at he; cases he
  refine ⟨hlt, by rw [X.still ho hm ha]; exact I.post, I.closed, fun i x hx hmx => (I.mains i x hx hmx).trans ?_, fun i x hx hax hi => ?_, fun i x t hx hax hi => I.pend i x t hx hax (by omega), fun i j x y hx hy h1 h2 h3 h4 => I.apart i j x y hx hy h1 h2 (by omega) (by omega), I.size, I.old, fun i x t hS hx hd hl hal => I.new i x t hS hx hd hl fun h => ?_, I.defers⟩
  · have := hno i x hx (.inl hmx); omega
  · have := hno i x hx (.inr hax); exact I.allocs i x hx hax (by omega)
  · have := hno i x hx (.inr h); have := hal h; omega

/-- Past an allocation that has come already. -/
theorem Inv.adopt (I : Inv P ops T val ρ0 W0 ds S pl m ρ a w) (D : Draw ops) {o : Oper} (ho : ops[m]? = some o) (ha : isAlloc o.op = true) (hS : S m) : ∃ ρ', Inv P ops T val ρ0 W0 ds S pl (m + 1) ρ' a w := by
  have hlt : m < ops.size := (Array.getElem?_eq_some_iff.1 ho).1
  obtain ⟨ty, hty⟩ := isAlloc_iff.1 ha
  obtain ⟨h1, h2, h3, ⟨cs, h4, h5, h6, h7⟩, h8⟩ := I.pend m o ty ho hty (Nat.le_refl _) hS
  have hpost := I.post.adopt cs ty ⟨pl m, 0, cs.length, cs.length⟩ h3 h2 h1 (h7 _ w (pl m) h4)
  rw [← h5] at hpost
  have hle : ρ.Le (ρ.put (T m).2.length cs.length ⟨pl m, 0, cs.length, cs.length⟩) := .put (rho_none I.post.rel _)
  have hmain : isMain o.op = false := by rw [hty]; rfl
  refine ⟨_, hlt, hpost, I.closed, fun i x hx hmx => (I.mains i x hx hmx).trans ?_, fun i x hx hax hi => ?_, fun i x t hx hax hi hSi => ?_, fun i j x y hx hy h1 h2 h3 h4 => I.apart i j x y hx hy h1 h2 (by omega) (by omega), I.size, fun t ht => (I.old t ht).mono hle, fun i x t hSi hx hd hl hal => ?_, I.defers⟩
  · have : i ≠ m := fun hi => by
      subst hi
      rw [ho] at hx
      obtain rfl := Option.some.inj hx
      rw [hmain] at hmx; cases hmx
    omega
  · by_cases hi2 : i = m
    · rw [hi2]; exact hS
    · exact I.allocs i x hx hax (by omega)
  · obtain ⟨k1, k2, k3, k4, k5⟩ := I.pend i x t hx hax (by omega) hSi
    refine ⟨k1, k2, fun A e p hp => ?_, k4, k5⟩
    by_cases hh : A = (T m).2.length ∧ e = cs.length
    · obtain ⟨rfl, rfl⟩ := hh
      rw [Rho.put_same] at hp
      obtain rfl := Option.some.inj hp
      intro hpl
      have := I.apart m i o x ho hx ha (isAlloc_iff.2 ⟨t, hax⟩) (Nat.le_refl _) (by omega) hS hSi hpl
      omega
    · rw [Rho.put_ne hh] at hp
      exact k3 _ _ _ hp
  · by_cases hi : i = m
    · subst hi
      rw [ho] at hx
      obtain rfl := Option.some.inj hx
      rw [h6, h8 t hd hl]
      have := C0.ptr (ρ := ρ.put (T i).2.length cs.length ⟨pl i, 0, cs.length, cs.length⟩) (A := (T i).2.length) (i := 0) (e := cs.length) (Rho.put_same _ _ _ _) (by simp)
      exact .v1 (.c1 (.c0 (by simpa [Place.at] using this)))
    · exact (I.new i x t hSi hx hd hl fun h => by have := hal h; omega).mono hle

/-- Past all that has come. -/
theorem Inv.upTo (X : Text P ops T val) (D : Draw ops) : ∀ (n m : Nat) (ρ : Rho), Inv P ops T val ρ0 W0 ds S pl m ρ a w → m + n ≤ ops.size → (∀ k x, m ≤ k → k < m + n → ops[k]? = some x → isMain x.op = false ∧ (isAlloc x.op = true → S k)) → ∃ ρ', Inv P ops T val ρ0 W0 ds S pl (m + n) ρ' a w
  | 0, m, ρ, I, _, _ => ⟨ρ, I⟩
  | n + 1, m, ρ, I, hn, hh => by
    have ho : ops[m]? = some (ops[m]'(by omega)) := Array.getElem?_eq_some_iff.2 ⟨by omega, rfl⟩
    obtain ⟨h1, h2⟩ := hh m _ (Nat.le_refl _) (by omega) ho
    have step : ∃ ρ', Inv P ops T val ρ0 W0 ds S pl (m + 1) ρ' a w := by
      cases ha : isAlloc (ops[m]'(by omega)).op with
      | true => exact I.adopt D ho ha (h2 ha)
      | false => exact ⟨ρ, I.skip X ho h1 ha⟩
    obtain ⟨ρ1, I1⟩ := step
    obtain ⟨ρ2, I2⟩ := Inv.upTo X D n (m + 1) ρ1 I1 (by omega) fun k x h3 h4 => hh k x (by omega) (by omega)
    exact ⟨ρ2, by rw [show m + (n + 1) = m + 1 + n by omega]; exact I2⟩

/-- An operation has come. -/
theorem Inv.next (I : Inv P ops T val ρ0 W0 ds S pl m ρ a w) (X : Text P ops T val) (D : Draw ops) {i : Nat} {o : Oper} (ho : ops[i]? = some o) (hS : ¬ S i) (hr : ∀ e ∈ o.after, Region.binds .any e = true → S e.on) (hna : isAlloc o.op = false)
    {m' : Nat} (hm' : (isMain o.op = true ∧ m = i ∧ m' = i + 1) ∨ (isMain o.op = false ∧ m' = m)) {ρ' : Rho} {v' : Value} {w' : World} (hp : Post P ρ (T m).2 w ρ' (T m').2 w') (hv : V ρ' (val i) v') :
    Inv P ops T val ρ0 W0 ds (fun k => S k ∨ k = i) pl m' ρ' (a.put o.dst v') w' := by
  have hi : i < ops.size := (Array.getElem?_eq_some_iff.1 ho).1
  have hmm : m ≤ m' := by rcases hm' with ⟨_, rfl, rfl⟩ | ⟨_, rfl⟩ <;> omega
  have hne : ∀ k x, ops[k]? = some x → k ≠ i → ∀ d, x.dst = some d → o.dst ≠ some d := fun k x hx hki d hd hod => by
    rcases Nat.lt_or_gt_of_ne hki with h | h
    · exact D.ne h hx ho hd hod
    · exact D.ne h ho hx hod hd
  have hnot : ∀ k x, ops[k]? = some x → isAlloc x.op = true → k ≠ i := fun k x hx hax hki => by
    subst hki
    rw [ho] at hx
    obtain rfl := Option.some.inj hx
    rw [hna] at hax; cases hax
  refine ⟨?_, I.post.trans hp, ?_, fun k x hx hmx => ?_, fun k x hx hax hk => ?_, fun k x t hx hax hk hSk => ?_, fun k j x y hx hy h1 h2 h3 h4 h5 h6 => ?_, by rw [put_size]; exact I.size, fun t ht => ?_, fun k x t hSk hx hd hl hal => ?_, by rw [put_defers]; exact I.defers⟩
  · rcases hm' with ⟨_, rfl, rfl⟩ | ⟨_, rfl⟩
    · exact hi
    · exact I.le
  · intro j x hj hx e he hb
    rcases hj with hj | rfl
    · exact .inl (I.closed j x hj hx e he hb)
    · rw [ho] at hx
      obtain rfl := Option.some.inj hx
      exact .inl (hr e he hb)
  · rcases hm' with ⟨h1, rfl, rfl⟩ | ⟨h1, rfl⟩
    · rw [I.mains k x hx hmx]; omega
    · rw [I.mains k x hx hmx]
      have : k ≠ i := fun hki => by
        subst hki
        rw [ho] at hx
        obtain rfl := Option.some.inj hx
        rw [h1] at hmx; cases hmx
      omega
  · have hki := hnot k x hx hax
    refine .inl (I.allocs k x hx hax ?_)
    rcases hm' with ⟨_, rfl, rfl⟩ | ⟨_, rfl⟩ <;> omega
  · have hki := hnot k x hx (isAlloc_iff.2 ⟨t, hax⟩)
    obtain ⟨k1, k2, k3, ⟨cs, k4, k5⟩, k6⟩ := I.pend k x t hx hax (by omega) (hSk.resolve_right hki)
    refine ⟨k1, Nat.lt_of_lt_of_le k2 hp.size, hp.img _ k2 k3, ⟨cs, by rw [(hp.frame _ k2 (not_wr_of_off k3)).1]; exact k4, k5⟩, fun d hd hl => ?_⟩
    rw [eval_put, if_neg fun hh => hne k x hx hki d hd hh.1]
    exact k6 d hd hl
  · exact I.apart k j x y hx hy h1 h2 (by omega) (by omega) (h5.resolve_right (hnot k x hx h1)) (h6.resolve_right (hnot j y hy h2))
  · rw [eval_put, if_neg fun hh => ht i o (.inr rfl) ho hh.1]
    exact (I.old t fun k x hk => ht k x (.inl hk)).mono hp.le
  · by_cases hki : k = i
    · subst hki
      rw [ho] at hx
      obtain rfl := Option.some.inj hx
      rw [eval_put, if_pos ⟨hd, by rw [I.size]; exact hl⟩]
      exact hv
    · rw [eval_put, if_neg fun hh => hne k x hx hki t hd hh.1]
      refine (I.new k x t (hSk.resolve_right hki) hx hd hl fun h => ?_).mono hp.le
      have h1 := hal h
      rcases hm' with ⟨_, rfl, rfl⟩ | ⟨_, rfl⟩ <;> omega

/-- An allocation comes, ahead of its place in the text. -/
theorem Inv.early (I : Inv P ops T val ρ0 W0 ds S pl m ρ a w) (X : Text P ops T val) (D : Draw ops) {i : Nat} {o : Oper} (ho : ops[i]? = some o) (hS : ¬ S i) (hr : ∀ e ∈ o.after, Region.binds .any e = true → S e.on) {t : TypeId} (hal : o.op = .alloc t) :
    ∃ (v' : Value) (w' : World), (execOp a.eval o).run P w = .ok (.value v') w' ∧ Inv P ops T val ρ0 W0 ds (fun k => S k ∨ k = i) (fun k => if k = i then w.heap.size else pl k) m ρ (a.put o.dst v') w' := by
  have hi : i < ops.size := (Array.getElem?_eq_some_iff.1 ho).1
  have hmi : m ≤ i := Nat.le_of_not_lt fun h => hS (I.allocs i o ho (isAlloc_iff.2 ⟨t, hal⟩) h)
  have hw : Region.wanted o (yieldedD ops (T i).1) = true := by
    unfold Region.wanted
    rw [D.guard i o ho (isAlloc_iff.2 ⟨t, hal⟩)]
  have hst : StepR P o (T i).1 (T i).2 (val i) (T (i + 1)).2 := by
    rcases (X.at ho).2 with ⟨_, h⟩ | ⟨h, _⟩
    · exact h
    · rw [hw] at h; cases h
  obtain ⟨cs, h1, h2, h3, h4⟩ := alloc_run hal (hst.plain (by rw [hal]; rfl))
  refine ⟨_, _, h3 w a, ?_⟩
  have hp := Post.allocOther I.post.rel (.cells cs.toArray t)
  have hne : ∀ k x, ops[k]? = some x → k ≠ i → ∀ d, x.dst = some d → o.dst ≠ some d := fun k x hx hki d hd hod => by
    rcases Nat.lt_or_gt_of_ne hki with h | h
    · exact D.ne h hx ho hd hod
    · exact D.ne h ho hx hod hd
  have hoff : Off ρ w.heap.size := fun A e p hq => by have := (I.post.rel.dom _ _ _ hq).2; omega
  refine ⟨I.le, I.post.trans hp, ?_, fun k x hx hmx => ?_, fun k x hx hax hk => .inl (I.allocs k x hx hax hk), fun k x t' hx hax hk hSk => ?_, fun k j x y hx hy g1 g2 g3 g4 g5 g6 g7 => ?_, by rw [put_size]; exact I.size, fun t' ht => ?_, fun k x t' hSk hx hd hl hal' => ?_, by rw [put_defers]; exact I.defers⟩
  · intro j x hj hx e he hb
    rcases hj with hj | rfl
    · exact .inl (I.closed j x hj hx e he hb)
    · rw [ho] at hx
      obtain rfl := Option.some.inj hx
      exact .inl (hr e he hb)
  · have : k ≠ i := fun hki => by
      subst hki
      rw [ho] at hx
      obtain rfl := Option.some.inj hx
      rw [hal] at hmx; cases hmx
    rw [← I.mains k x hx hmx]
    simp [this]
  · by_cases hki : k = i
    · subst hki
      rw [ho] at hx
      obtain rfl := Option.some.inj hx
      rw [hal] at hax
      obtain rfl := Op.alloc.inj hax
      simp only [if_true]
      refine ⟨I.post.size, by simp, hoff, ⟨cs, heap_alloc_new _ _, h1, h2, h4⟩, fun d hd hl => ?_⟩
      rw [eval_put, if_pos ⟨hd, by rw [I.size]; exact hl⟩]
    · simp only [hki, if_false]
      obtain ⟨k1, k2, k3, ⟨cs', k4, k5⟩, k6⟩ := I.pend k x t' hx hax hk (hSk.resolve_right hki)
      refine ⟨k1, by simp; omega, k3, ⟨cs', by rw [heap_alloc_old k2]; exact k4, k5⟩, fun d hd hl => ?_⟩
      rw [eval_put, if_neg fun hh => hne k x hx hki d hd hh.1]
      exact k6 d hd hl
  · have lt : ∀ k x, ops[k]? = some x → isAlloc x.op = true → m ≤ k → S k → pl k < w.heap.size := fun k x hx ha hk hSk => by
      obtain ⟨t', ht'⟩ := isAlloc_iff.1 ha
      exact (I.pend k x t' hx ht' hk hSk).2.1
    by_cases hki : k = i
    · by_cases hji : j = i
      · rw [hki, hji]
      · simp only [hki, hji, if_true, if_false] at g7
        have := lt j y hy g2 g4 (g6.resolve_right hji); omega
    · by_cases hji : j = i
      · simp only [hki, hji, if_true, if_false] at g7
        have := lt k x hx g1 g3 (g5.resolve_right hki); omega
      · simp only [hki, hji, if_false] at g7
        exact I.apart k j x y hx hy g1 g2 g3 g4 (g5.resolve_right hki) (g6.resolve_right hji) g7
  · rw [eval_put, if_neg fun hh => ht i o (.inr rfl) ho hh.1]
    exact I.old t' fun k x hk => ht k x (.inl hk)
  · have hki : k ≠ i := fun hki => by
      subst hki
      rw [ho] at hx
      obtain rfl := Option.some.inj hx
      have := hal' (isAlloc_iff.2 ⟨t, hal⟩)
      omega
    rw [eval_put, if_neg fun hh => hne k x hx hki t' hd hh.1]
    exact I.new k x t' (hSk.resolve_right hki) hx hd hl hal'
end
end
end Go.Ds
/-
  Ds against the model: regions that draw their order, put together.
-/
namespace Go.Ds
section
variable {P : Program} {ρ : Rho} {H : Heap} {w : World} {ops : Array Oper} {T : Nat → List Value × Heap} {val : Nat → Value}
variable {ρ0 : Rho} {W0 : World} {ds : List Deferred} {S : Nat → Prop} {pl : Nat → Nat} {m : Nat} {a : Act}

/-- All has come: the text's end. -/
theorem Inv.done (I : Inv P ops T val ρ0 W0 ds S pl m ρ a w) (X : Text P ops T val) (D : Draw ops) (hall : ∀ i, i < ops.size → S i) :
    ∃ ρ', Post P ρ0 (T 0).2 W0 ρ' (T ops.size).2 w ∧ All2 (V ρ') (T ops.size).1 a.tmps.toList ∧ a.defers = ds := by
  have hle := I.le
  obtain ⟨ρ', I'⟩ := Inv.upTo X D (ops.size - m) m ρ I (by omega) fun k x h1 h2 hx => by
    have hk : S k := hall k (by omega)
    refine ⟨?_, fun _ => hk⟩
    cases hm : isMain x.op with
    | false => rfl
    | true => have := (I.mains k x hx hm).1 hk; omega
  rw [show m + (ops.size - m) = ops.size by omega] at I'
  refine ⟨ρ', I'.post, All2.of_get (by rw [X.length _ (Nat.le_refl _)]; simpa using I'.size.symm) fun t v h1 => ?_, I'.defers⟩
  have ht : t < (T 0).1.length := by rw [← X.length _ (Nat.le_refl _)]; exact (List.getElem?_eq_some_iff.1 h1).1
  have e1 : ev (T ops.size).1 (.tmp t) = v := by simp [ev, get_eq, List.getD_eq_getElem?_getD, h1]
  have ht2 : t < a.tmps.size := by rw [I'.size]; exact ht
  refine ⟨a.tmps[t], by simp [ht2], ?_⟩
  have e2 : a.eval (.tmp t) = a.tmps[t] := by simp [Act.eval, ht2]
  rw [← e1, ← e2]
  by_cases hk : ∃ k x, k < ops.size ∧ ops[k]? = some x ∧ x.dst = some t
  · obtain ⟨k, x, hkn, hx, hd⟩ := hk
    rw [X.new D hx hd ht _ hkn (Nat.le_refl _)]
    exact I'.new k x t (hall k hkn) hx hd ht fun _ => hkn
  · rw [X.old _ (Nat.le_refl _) fun k x hkn hx hd => hk ⟨k, x, hkn, hx, hd⟩]
    exact I'.old t fun k x hS hx hd => hk ⟨k, x, (Array.getElem?_eq_some_iff.1 hx).1, hx, hd⟩

/-! ### What has come, in the model's table -/
theorem mem_ready {listed : Array Bool} (hsz : listed.size = ops.size) {i : Nat} (h : i ∈ Region.ready .any ops listed) :
    ∃ o, ops[i]? = some o ∧ ¬ listed.getD i false = true ∧ ∀ e ∈ o.after, Region.binds .any e = true → listed.getD e.on false = true := by
  unfold Region.ready at h
  rw [List.mem_filter] at h
  obtain ⟨hi, h⟩ := h
  have hi : i < ops.size := List.mem_range.1 hi
  have ho : ops[i]? = some ops[i] := Array.getElem?_eq_some_iff.2 ⟨hi, rfl⟩
  rw [ho, Bool.and_eq_true] at h
  refine ⟨ops[i], ho, ?_, ?_⟩
  · have h1 := h.1
    rw [Array.getD_eq_getD_getElem?, Array.getElem?_eq_getElem (by omega)] at h1 ⊢
    simpa using h1
  · have h2 := h.2
    simp only [Option.map_some, Option.getD_some, Array.all_eq_true_iff_forall_mem, Bool.or_eq_true, Bool.not_eq_true'] at h2
    intro e he hb
    rcases h2 e he with h | h
    · rw [hb] at h; cases h
    · exact h

theorem ready_mem {listed : Array Bool} (hsz : listed.size = ops.size) {i : Nat} {o : Oper} (ho : ops[i]? = some o) (hn : ¬ listed.getD i false = true) (hr : ∀ e ∈ o.after, Region.binds .any e = true → listed.getD e.on false = true) : i ∈ Region.ready .any ops listed := by
  have hi : i < ops.size := (Array.getElem?_eq_some_iff.1 ho).1
  unfold Region.ready
  rw [List.mem_filter]
  refine ⟨List.mem_range.2 hi, ?_⟩
  rw [ho, Bool.and_eq_true]
  constructor
  · rw [Array.getD_eq_getD_getElem?, Array.getElem?_eq_getElem (by omega)] at hn ⊢
    simpa using hn
  · simp only [Option.map_some, Option.getD_some, Array.all_eq_true_iff_forall_mem, Bool.or_eq_true, Bool.not_eq_true']
    intro e he
    cases hb : Region.binds .any e with
    | false => exact .inl rfl
    | true => exact .inr (hr e he hb)

theorem ready_nil {listed : Array Bool} (hsz : listed.size = ops.size) (h : ∀ i, i < ops.size → listed.getD i false = true) : Region.ready .any ops listed = [] := by
  cases hr : Region.ready .any ops listed with
  | nil => rfl
  | cons i r =>
    obtain ⟨o, ho, hn, _⟩ := mem_ready hsz (i := i) (by rw [hr]; simp)
    exact absurd (h i (Array.getElem?_eq_some_iff.1 ho).1) hn

theorem all_of_ready_nil (D : Draw ops) {listed : Array Bool} (hsz : listed.size = ops.size) (h : Region.ready .any ops listed = []) : ∀ i, i < ops.size → listed.getD i false = true := by
  intro i
  induction i using Nat.strongRecOn with
  | _ i ih =>
    intro hi
    have ho : ops[i]? = some ops[i] := Array.getElem?_eq_some_iff.2 ⟨hi, rfl⟩
    refine Classical.byContradiction fun hn => ?_
    have := ready_mem hsz ho hn fun e he hb => by
      have := D.back i _ e ho he hb
      exact ih e.on this (by omega)
    rw [h] at this
    cases this

theorem listed_set {listed : Array Bool} {i : Nat} (hi : i < listed.size) (j : Nat) : (listed.setIfInBounds i true).getD j false = true ↔ (listed.getD j false = true ∨ j = i) := by
  rw [Array.getD_eq_getD_getElem?, Array.getD_eq_getD_getElem?, Array.getElem?_setIfInBounds]
  by_cases h : i = j
  · subst h; simp [hi]
  · simp [h, Ne.symm h]

theorem Inv.congr {S' : Nat → Prop} (h : ∀ j, S' j ↔ S j) (I : Inv P ops T val ρ0 W0 ds S pl m ρ a w) : Inv P ops T val ρ0 W0 ds S' pl m ρ a w := by
  have : S' = S := funext fun j => propext (h j)
  rw [this]; exact I

theorem mem_zip {o : Oper} {i : Nat} (h : (o, i) ∈ ops.toList.zipIdx) : ops[i]? = some o := by
  rw [List.mem_zipIdx_iff_getElem?] at h
  simpa using h

theorem mem_mains {j : Nat} {x : Oper} (hx : ops[j]? = some x) (hm : isMain x.op = true) : j ∈ mainsOf ops := by
  unfold mainsOf
  rw [List.mem_filterMap]
  exact ⟨(x, j), mem_zipIdx hx, by simp [hm]⟩

theorem mains_mem {j : Nat} (h : j ∈ mainsOf ops) : ∃ x, ops[j]? = some x ∧ isMain x.op = true := by
  unfold mainsOf at h
  rw [List.mem_filterMap] at h
  obtain ⟨⟨x, j'⟩, h1, h2⟩ := h
  simp only at h2
  split at h2
  · rename_i hm
    obtain rfl := Option.some.inj h2
    exact ⟨x, mem_zip h1, hm⟩
  · cases h2

theorem mem_effects {j : Nat} {x : Oper} (hx : ops[j]? = some x) (hm : isMain x.op = true ∨ isAlloc x.op = true) : j ∈ effectsOf ops := by
  unfold effectsOf
  rw [List.mem_filterMap]
  exact ⟨(x, j), mem_zipIdx hx, by rcases hm with hm | hm <;> simp [hm]⟩

/-- A read's heap is the text's own, or has been looked at. -/
theorem reads_of {i m : Nat} {o : Oper} (ho : ops[i]? = some o) (hr : isRead o.op = true) (hm : m = 0 ∨ ∃ j x, m = j + 1 ∧ ops[j]? = some x ∧ isMain x.op = true)
    (hlo : ∀ j x, ops[j]? = some x → isMain x.op = true → (bef ops i j = true → j < m) ∧ (bef ops j i = true → m ≤ j)) :
    (i, m) ∈ readsOf ops ∨ ∀ j x, ops[j]? = some x → min m i ≤ j → j < max m i → isMain x.op = false ∧ isAlloc x.op = false := by
  by_cases h : ∃ j x, ops[j]? = some x ∧ (isMain x.op = true ∨ isAlloc x.op = true) ∧ min m i ≤ j ∧ j < max m i
  · obtain ⟨j, x, hx, he, h1, h2⟩ := h
    refine .inl ?_
    unfold readsOf
    rw [List.mem_flatMap]
    refine ⟨(o, i), mem_zipIdx ho, ?_⟩
    simp only [hr, if_true]
    rw [List.mem_map]
    refine ⟨m, ?_, rfl⟩
    rw [List.mem_filter]
    refine ⟨?_, ?_⟩
    · rcases hm with rfl | ⟨j, x, rfl, hx, hmx⟩
      · simp
      · exact List.mem_cons_of_mem _ (List.mem_map.2 ⟨j, mem_mains hx hmx, rfl⟩)
    · rw [Bool.and_eq_true]
      constructor
      · rw [List.all_eq_true]
        intro j hj
        obtain ⟨x, hx, hmx⟩ := mains_mem hj
        obtain ⟨g1, g2⟩ := hlo j x hx hmx
        unfold bef at g1 g2
        rw [Bool.and_eq_true]
        constructor
        · cases hb : ((befs [] ops.toList).getD i 0).testBit j with
          | false => rfl
          | true => simpa using g1 hb
        · cases hb : ((befs [] ops.toList).getD j 0).testBit i with
          | false => rfl
          | true => simpa using g2 hb
      · rw [List.any_eq_true]
        exact ⟨j, mem_effects hx he, by rw [Bool.and_eq_true]; exact ⟨decide_eq_true h1, decide_eq_true h2⟩⟩
  · refine .inr fun j x hx h1 h2 => ?_
    constructor
    · cases hm : isMain x.op with
      | false => rfl
      | true => exact absurd ⟨j, x, hx, .inl hm, h1, h2⟩ h
    · cases hm : isAlloc x.op with
      | false => rfl
      | true => exact absurd ⟨j, x, hx, .inr hm, h1, h2⟩ h

theorem reads_le {i m : Nat} (h : (i, m) ∈ readsOf ops) : m ≤ ops.size := by
  unfold readsOf at h
  rw [List.mem_flatMap] at h
  obtain ⟨⟨x, j⟩, _, h⟩ := h
  simp only at h
  split at h
  · rw [List.mem_map] at h
    obtain ⟨m', h, he⟩ := h
    injection he with h1 h2
    subst h1 h2
    rw [List.mem_filter] at h
    rcases List.mem_cons.1 h.1 with h | h
    · omega
    · rw [List.mem_map] at h
      obtain ⟨q, hq, rfl⟩ := h
      obtain ⟨x, hx, _⟩ := mains_mem hq
      exact (Array.getElem?_eq_some_iff.1 hx).1
  · cases h

/-- **Whatever order is drawn.** -/
theorem any_ok (X : Text P ops T val) (D : Draw ops)
    (hread : ∀ i m o, (i, m) ∈ readsOf ops → ops[i]? = some o → Region.wanted o (yieldedD ops (T i).1) = true → ∃ H2, opD P o (T i).1 (T m).2 = some (val i, H2))
    (ro : Option Nat) (k : Nat) {Q : Exit → Act → World → Prop} (hQ : ∀ ρ' a' w', Post P ρ0 (T 0).2 W0 ρ' (T ops.size).2 w' → All2 (V ρ') (T ops.size).1 a'.tmps.toList → a'.defers = ds → Q .normal a' w') :
    ∀ (fuel : Nat) (listed : Array Bool) (U : List Nat), listed.size = ops.size → (∀ i, i < ops.size → ¬ listed.getD i false = true → i ∈ U) → U.length ≤ fuel →
      ∀ (pl : Nat → Nat) (m : Nat) (ρ : Rho) (a : Act) (w : World), Inv P ops T val ρ0 W0 ds (fun j => listed.getD j false = true) pl m ρ a w → (m = 0 ∨ ∃ j o, m = j + 1 ∧ ops[j]? = some o ∧ isMain o.op = true) →
      wpAnyIn (fe ro) k P .any ops Q fuel listed a w := by
  have fin : ∀ {listed : Array Bool} {pl : Nat → Nat} {m : Nat} {ρ : Rho} {a : Act} {w : World}, (∀ i, i < ops.size → listed.getD i false = true) → Inv P ops T val ρ0 W0 ds (fun j => listed.getD j false = true) pl m ρ a w → Q .normal a w := by
    intro listed pl m ρ a w hall I
    obtain ⟨ρ', h1, h2, h3⟩ := I.done X D hall
    exact hQ ρ' a w h1 h2 h3
  intro fuel
  induction fuel with
  | zero =>
    intro listed U hsz hU hlen pl m ρ a w I hm
    have hall : ∀ i, i < ops.size → listed.getD i false = true := fun i hi => Classical.byContradiction fun hn => by
      have := hU i hi hn
      have h0 : U = [] := List.eq_nil_of_length_eq_zero (by omega)
      rw [h0] at this
      cases this
    exact ⟨ready_nil hsz hall, fin hall I⟩
  | succ fuel ih =>
    intro listed U hsz hU hlen pl m ρ a w I hm
    refine ⟨fun h => fin (all_of_ready_nil D hsz h) I, fun i hi => ?_⟩
    obtain ⟨o, ho, hn, hr⟩ := mem_ready hsz hi
    have hin : i < ops.size := (Array.getElem?_eq_some_iff.1 ho).1
    have hiU : i ∈ U := hU i hin hn
    -- on from here
    have on : ∀ (pl : Nat → Nat) (m : Nat) (ρ : Rho) (a : Act) (w : World), Inv P ops T val ρ0 W0 ds (fun j => listed.getD j false = true ∨ j = i) pl m ρ a w → (m = 0 ∨ ∃ j o, m = j + 1 ∧ ops[j]? = some o ∧ isMain o.op = true) →
        wpAnyIn (fe ro) k P .any ops Q fuel (listed.setIfInBounds i true) a w := by
      intro pl m ρ a w I hm
      refine ih (listed.setIfInBounds i true) (U.erase i) (by simp [hsz]) ?_ (by have h1 := List.length_erase_of_mem hiU; have h2 := List.length_pos_of_mem hiU; omega) pl m ρ a w (I.congr fun j => listed_set (by omega) j) hm
      intro j hj hnj
      have hnj' := mt (listed_set (by omega) j).2 hnj
      have hji : j ≠ i := fun h => hnj' (.inr h)
      exact (List.mem_erase_of_ne hji).2 (hU j hj fun h => hnj' (.inl h))
    unfold wpOpIn
    rw [ho]
    simp only
    cases hma : isMain o.op with
    | true =>
      have hmi : m ≤ i := Nat.le_of_not_lt fun h => hn ((I.mains i o ho hma).2 h)
      obtain ⟨ρ1, I1⟩ := Inv.upTo X D (i - m) m ρ I (by omega) fun j x h1 h2 hx => by
        have hji : j < i := by omega
        refine ⟨?_, fun hal => D.bef I.closed i o ho hr j (D.main hji hx ho (.inr hal) hma)⟩
        cases hmx : isMain x.op with
        | false => rfl
        | true => have := (I.mains j x hx hmx).1 (D.bef I.closed i o ho hr j (D.main hji hx ho (.inl hmx) hma)); omega
      rw [show m + (i - m) = i by omega] at I1
      have hna : isAlloc o.op = false := by cases h : o.op <;> first | rfl | (rw [h] at hma; cases hma)
      rw [I1.wanted X D ho hn hr fun _ => rfl]
      rcases (X.at ho).2 with ⟨hw, hst⟩ | ⟨hw, hv, hT⟩
      · rw [hw, if_pos rfl]
        refine hst.sound I1.post.rel (I1.operands X D ho hn hr fun _ => rfl) ro k fun ρ2 v2 w2 hp2 hv2 => ?_
        exact on _ _ _ _ _ (I1.next X D ho hn hr hna (.inl ⟨hma, rfl, rfl⟩) hp2 hv2) (.inr ⟨i, o, rfl, ho, hma⟩)
      · rw [hw, if_neg (by simp)]
        refine ⟨fun _ _ => trivial, ?_⟩
        refine on _ _ _ _ _ (I1.next X D ho hn hr hna (.inl ⟨hma, rfl, rfl⟩) (by rw [hT]; exact .refl I1.post.rel) (by rw [hv]; exact .undef)) (.inr ⟨i, o, rfl, ho, hma⟩)
    | false =>
      rw [I.wanted X D ho hn hr fun h => by rw [hma] at h; cases h]
      cases hal : isAlloc o.op with
      | true =>
        obtain ⟨t, ht⟩ := isAlloc_iff.1 hal
        have hw : Region.wanted o (yieldedD ops (T i).1) = true := by
          unfold Region.wanted
          rw [D.guard i o ho hal]
        rw [hw, if_pos rfl]
        obtain ⟨v', w', hrun, I'⟩ := I.early X D ho hn hr ht
        refine ⟨fun _ _ => trivial, ?_⟩
        have hdef : ∀ c, o.op ≠ .defer c := fun c hc => by rw [ht] at hc; cases hc
        rw [Oper.semAt_eq _ _ _ hdef, hrun]
        exact on _ _ _ _ _ I' hm
      | false =>
        have hops := I.operands X D ho hn hr fun h => by rw [hma] at h; cases h
        rcases (X.at ho).2 with ⟨hw, hst⟩ | ⟨hw, hv, hT⟩
        · rw [hw, if_pos rfl]
          have hop := hst.plain hma
          have hopm : opD P o (T i).1 (T m).2 = some (val i, (T m).2) := by
            cases hrd : isRead o.op with
            | false => exact (pure_any (T m).2 hma hal hrd hop).2
            | true =>
              have hlo : ∀ j x, ops[j]? = some x → isMain x.op = true → (bef ops i j = true → j < m) ∧ (bef ops j i = true → m ≤ j) := fun j x hx hmx =>
                ⟨fun hb => (I.mains j x hx hmx).1 (D.bef I.closed i o ho hr j hb), fun hb => Nat.le_of_not_lt fun hlt => by
                  have hSj := (I.mains j x hx hmx).2 hlt
                  exact hn (D.bef I.closed j x hx (fun e he hb' => I.closed j x hSj hx e he hb') i hb)⟩
              rcases reads_of ho hrd hm hlo with hmem | hno
              · obtain ⟨H2, hH2⟩ := hread i m o hmem ho hw
                rw [hH2, read_same hrd hma hH2]
              · have hTT : (T m).2 = (T i).2 := by
                  rcases Nat.le_total m i with h | h
                  · exact (X.stills i h (by omega) fun j x h1 h2 hx => hno j x hx (by omega) (by omega)).symm
                  · exact X.stills m h I.le fun j x h1 h2 hx => hno j x hx (by omega) (by omega)
                rw [hTT]
                have := read_same hrd hma hop
                rw [hop, this]
          refine (StepR.op hst.ok hopm).sound I.post.rel hops ro k fun ρ2 v2 w2 hp2 hv2 => ?_
          exact on _ _ _ _ _ (I.next X D ho hn hr hal (.inr ⟨hma, rfl⟩) hp2 hv2) hm
        · rw [hw, if_neg (by simp)]
          refine ⟨fun _ _ => trivial, ?_⟩
          exact on _ _ _ _ _ (I.next X D ho hn hr hal (.inr ⟨hma, rfl⟩) (.refl I.post.rel) (by rw [hv]; exact .undef)) hm

/-- **A region that draws its order.** -/
theorem draw_ok (hmix : P.follows .mixedOrders = true) {n : Nat} (hex : ∀ c l H e l' H', exD P n c l H = some (e, l', H') → Sim P c l H e l' H') {id : Nat} {ops : Array Oper} {l l' : List Value} {H H' : Heap} {e : Ex}
    (hd : exD P (n + 1) (.region id ops true) l H = some (e, l', H')) (ro : Option Nat) (k : Nat) {Q : Exit → Act → World → Prop}
    (ρ : Rho) (w : World) (a : Act) (hr : HRel P ρ H w) (hE : All2 (V ρ) l a.tmps.toList) (hQ : e = .normal → ∀ a' w', OpsOk P ρ H w a.defers l' H' a' w' → Q .normal a' w') : (Code.region id ops true).wpIn (fe ro) k P Q a w := by
  simp only [exD] at hd
  split at hd
  case h_2 => cases hd
  rename_i tab htab
  split at hd
  case h_2 => cases hd
  rename_i tr l1 H1 hops
  split at hd
  case isFalse => cases hd
  rename_i hall
  injection hd with hd
  injection hd with e1 hd
  injection hd with e2 e3
  subst e1 e2 e3
  unfold drawTab at htab
  split at htab
  case isFalse => cases htab
  rename_i hord
  obtain rfl := Option.some.inj htab
  have D := draw_of hord
  obtain ⟨T, val, hT0, hTn, htl, htr, hstep⟩ := opsT_spec hex _ _ _ _ _ _ hops
  rw [List.length_range] at hTn htl htr
  have X : Text P ops T val := ⟨fun k hk => hstep k k (by rw [List.getElem?_range hk])⟩
  have e0 : (T 0).1 = l := by rw [hT0]
  have e00 : (T 0).2 = H := by rw [hT0]
  refine wpIn_region_any hmix ?_
  have hdrew : Post P ρ H w ρ H { w with drawn := w.drawn + 1 } := Post.drew hr
  refine any_ok (ρ0 := ρ) (W0 := w) (ds := a.defers) X D ?_ ro k ?_ ops.size _ (List.range ops.size) (by simp) (fun i hi _ => List.mem_range.2 hi) (by simp) (fun _ => 0) 0 ρ a _ ?_ (.inl rfl)
  · intro i m o hm ho hw
    rw [List.all_eq_true] at hall
    have h := hall _ hm
    unfold readD at h
    have hi : i < ops.size := (Array.getElem?_eq_some_iff.1 ho).1
    simp only [ho, htr i hi, hw, Bool.not_true, Bool.false_or] at h
    have hle := reads_le hm
    have key : ∀ H3, H3 = (T m).2 → (match opD P o (T i).1 H3 with | some (v', _) => veq v' (val i) | none => false) = true → ∃ H2, opD P o (T i).1 (T m).2 = some (val i, H2) := by
      intro H3 he h
      subst he
      split at h
      · rename_i v' H2 hop
        exact ⟨H2, by rw [hop, veq_eq h]⟩
      · cases h
    by_cases h1 : m < ops.size
    · rw [htr m h1] at h
      exact key _ rfl h
    · have h2 : m = ops.size := by omega
      subst h2
      rw [List.getElem?_eq_none (by omega)] at h
      exact key _ (by rw [hTn]) h
  · intro ρ' a' w' h1 h2 h3
    rw [e00, hTn] at h1
    rw [hTn] at h2
    exact hQ rfl a' w' ⟨ρ', h1, h2, h3⟩
  · have hfalse : ∀ j, ¬ (Array.replicate ops.size false).getD j false = true := fun j => by
      rw [Array.getD_eq_getD_getElem?, Array.getElem?_replicate]
      split <;> simp
    refine ⟨Nat.zero_le _, by rw [e00]; exact hdrew, fun j _ hj => absurd hj (hfalse j), fun i o ho hm => ⟨fun h => absurd h (hfalse i), fun h => absurd h (Nat.not_lt_zero _)⟩, fun i o ho ha hi => absurd hi (Nat.not_lt_zero _), fun i o t ho ha hi hS => absurd hS (hfalse i),
      fun i j x y hx hy h1 h2 h3 h4 h5 => absurd h5 (hfalse i), by rw [e0]; simpa using hE.length.symm, fun t _ => by rw [e0]; exact get_ok hE t, fun i o t hS => absurd hS (hfalse i), rfl⟩
end
end Go.Ds
