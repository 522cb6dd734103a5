/-
  A part of the proof of SoundKeys.
-/
import Derived.Test.YtnokpoinacbjiaaGreatDoorVA
import Derived.Test.YtnokpoinacbjiaaGreatDoorVB
import Derived.Test.YtnokpoinacbjiaaGreatDoorProg
import Derived.KernelRfl
import Derived.Lib.LaidTab
import Derived.Stop.LaidErr
import Derived.Laws.Strings
set_option linter.unusedVariables false
set_option linter.unusedSimpArgs false
set_option linter.defProp false
set_option linter.unusedSectionVars false
namespace Go.Ds
noncomputable section
inductive Pth where
 | z
 | l (p : Pth)
 | r (p : Pth)
inductive Fr where
 | e
 | n (v : Value) (l r : Fr)
def a6b : Nat → Nat → Pth := fun f => Nat.rec (motive := fun _ => Nat → Pth) (fun _ => .z) (fun _ ih k => Nat.rec (motive := fun _ => Pth) .z (fun k _ => Bool.rec (motive := fun _ => Pth) (.r (ih (Nat.div k 2))) (.l (ih (Nat.div k 2))) (Nat.beq (Nat.mod k 2) 0)) k) f
def kU (k : Nat) : Pth := a6b k k
def oC (p : Pth) : Fr → Value := Pth.rec (motive := fun _ => Fr → Value)
 (fun f => Fr.rec (motive := fun _ => Value) undef (fun v _ _ _ _ => v) f)
 (fun _ ih f => Fr.rec (motive := fun _ => Value) undef (fun _ l _ _ _ => ih l) f)
 (fun _ ih f => Fr.rec (motive := fun _ => Value) undef (fun _ _ r _ _ => ih r) f) p
def pZ {α : Type} (v : Value) (p : Pth) : Fr → (Fr → α) → α := Pth.rec (motive := fun _ => Fr → (Fr → α) → α)
 (fun f K => Fr.rec (motive := fun _ => α) (K (.n v .e .e)) (fun _ l r _ _ => K (.n v l r)) f)
 (fun _ ih f K => Fr.rec (motive := fun _ => α) (ih .e fun l => K (.n undef l .e)) (fun w l r _ _ => ih l fun l => K (.n w l r)) f)
 (fun _ ih f K => Fr.rec (motive := fun _ => α) (ih .e fun r => K (.n undef .e r)) (fun w l r _ _ => ih r fun r => K (.n w l r)) f) p
def lP {α : Type} (p : Pth) : (Pth → α) → α := Pth.rec (motive := fun _ => (Pth → α) → α) (fun K => K .z) (fun _ ih K => ih fun p => K (.l p)) (fun _ ih K => ih fun p => K (.r p)) p
inductive LArg where
 | t (p : Pth)
 | c (v : Value)
def mO (f : Fr) (x : LArg) : Value := LArg.rec (motive := fun _ => Value) (fun p => oC p f) (fun v => v) x
inductive Rs where
 | no
 | ok (v : Value) (H : Heap)
 | th (v : Value) (H : Heap)
def oJ {α : Type} (v : Value) (K : Value → α) : α :=
 match v with
 | .bool b => K (.bool b)
 | .int k n => K (.int k n)
 | .string s => K (.string s)
 | .pointer a => K (.pointer a)
 | .slice a n c => K (.slice a n c)
 | .map r => K (.map r)
 | .func fn a b => K (.func fn a b)
 | .agg cs => K (.agg cs)
 | .tuple vs => K (.tuple vs)
 | v => K v
inductive LOp where
 | bad
 | mv (x : LArg)
 | pick (c a b : LArg)
 | bin (g : IntKind → Int → Int → Option Value) (x y : LArg)
 | not (x : LArg)
 | ld1 (x : LArg)
 | ldn (n : Nat) (x : LArg)
 | st (n : Nat) (x y : LArg)
 | fa (off : Nat) (x : LArg)
 | ixs (size : Nat) (x i : LArg)
 | ixa (n size : Nat) (x i : LArg)
 | ext (i : Nat) (x : LArg)
 | f1 (off : Nat) (x : LArg)
 | fn (off n : Nat) (x : LArg)
 | len (x : LArg)
 | slen (x : LArg)
 | app (elem size bytes : Nat) (x y : LArg)
 | alloc (t : TypeId) (cs : List Value)
 | callF (f : FuncId) (p : Pth) (args : List LArg)
 | callV (g : LArg) (args : List LArg)
 | gen (o : Oper)
inductive LOps where
 | nil
 | cons (d : Option Pth) (o : LOp) (rest : LOps)
 | gcons (p : Pth) (w : Bool) (d : Option Pth) (o : LOp) (rest : LOps)
inductive LCode where
 | bad
 | skip
 | reg (ops : LOps)
 | drw (ops : LOps) (tab : List (Nat × Option Nat × Option (Pth × Bool) × LOp))
 | seq (a b : LCode)
 | cond (c : LArg) (x y : LCode)
 | block (id : Nat) (b : LCode)
 | loop (b : LCode)
 | exit (id : Nat)
 | ret
 | range (g : LArg) (ps : List Pth) (pp : List Pth) (params : Array Tmp) (assign body : Code) (a b : LCode)
inductive LRes where
 | t (p : Pth)
 | c1 (p : Pth)
 | cn (n : Nat) (p : Pth)
structure LFunc where
 ps : List Pth
 body : LCode
 res : List LRes
inductive LT where
 | e
 | n (g : Option LFunc) (l r : LT)
def a2K (p : Pth) : LT → Option LFunc := Pth.rec (motive := fun _ => LT → Option LFunc)
 (fun f => LT.rec (motive := fun _ => Option LFunc) none (fun v _ _ _ _ => v) f)
 (fun _ ih f => LT.rec (motive := fun _ => Option LFunc) none (fun _ l _ _ _ => ih l) f)
 (fun _ ih f => LT.rec (motive := fun _ => Option LFunc) none (fun _ _ r _ _ => ih r) f) p
def sD {α : Type} (v : LFunc) (p : Pth) : LT → (LT → α) → α := Pth.rec (motive := fun _ => LT → (LT → α) → α)
 (fun f K => LT.rec (motive := fun _ => α) (K (.n (some v) .e .e)) (fun _ l r _ _ => K (.n (some v) l r)) f)
 (fun _ ih f K => LT.rec (motive := fun _ => α) (ih .e fun l => K (.n none l .e)) (fun w l r _ _ => ih l fun l => K (.n w l r)) f)
 (fun _ ih f K => LT.rec (motive := fun _ => α) (ih .e fun r => K (.n none .e r)) (fun w l r _ _ => ih r fun r => K (.n w l r)) f) p
structure LEnv where
 L : Nat
 ps : List Pth
 pp : List Pth
 a : LCode
 b : LCode
def c0a (P : Program) (o : Oper) (ρ : Operand → Value) (H : Heap) : Option (Value × Heap) :=
 if o.op.operands.toList.all (fun x => flat (ρ x)) then
  match iL P (execOp ρ o) with
  | some (.value v) => if flat v then some (v, H) else none
  | _ => none
 else none
def c2N (P : Program) (o : Oper) (ρ : Operand → Value) (H : Heap) : Option (Value × Heap) :=
 let keep (v : Option Value) : Option (Value × Heap) := v.map fun v => (v, H)
 let plain : Option (Value × Heap) := c0a P o ρ H
 match o.op with
 | .move x | .assign x => some (ρ x, H)
 | .pick c a b => match ρ c with | .bool t => some (if t then ρ a else ρ b, H) | _ => none
 | .alloc t => (jA P t).bind fun z => if jC z then qW P H t z else none
 | .box t x => xI P H t (ρ x)
 | .build t parts =>
   let ps := parts.toList.map fun (i, x) => (i, ρ x)
   if (jA P t).any jC && ps.all (fun x => x.2.cells.toList.all oneCell) then
    (P.built t ps).map fun cs => (.agg cs, H)
   else none
 | .buildSlice t len parts =>
   (iJ P t).bind fun elem => (iE P elem).bind fun size => (jA P elem).bind fun z =>
   let ps := parts.toList.map fun (i, x) => (i, ρ x)
   if len == 0 && ps.isEmpty && size != 0 then some (.slice (some ⟨H.length, 0, some 0⟩) 0 size, rU H elem []) else
   if jC z && ps.all (fun x => x.2.cells.toList.all oneCell) && len * size ≤ 2 ^ 24 && len * size != 0 && z.cells.size == size then
    (Instr.fill (fun i => some (i * size, size)) ((Array.range (len * size)).map (z.cells[· % z.cells.size]!)) ps).map fun cs =>
      (.slice (some ⟨H.length, 0, some cs.toList.length⟩) len size, rU H elem cs.toList)
   else none
 | .makeSlice t n c =>
   (iJ P t).bind fun elem => (iE P elem).bind fun size => (mP P elem).bind fun bytes => (jA P elem).bind fun z =>
   match ρ n, ρ c with
   | .int .i64 a, .int .i64 b =>
     if jC z && decide (a ≤ b) && 0 ≤ a && b * (bytes + 1) ≤ (nY : Int) && size != 0 && z.cells.size == size then
      let cs := if size = 1 then List.replicate b.toNat (z.cells[0]!) else (madeCells z.cells (b.toNat * size)).toList
      some (.slice (some ⟨H.length, 0, some cs.length⟩) a.toNat size, rU H elem cs)
     else none
   | _, _ => none
 | .load t a => keep (lS P H t (ρ a))
 | .store t a x => (rG P H t (ρ a) (ρ x)).map fun H => (undef, H)
 | .nilCheck x => match ρ x with
   | .pointer (some a) => some (.pointer (some a), H)
   | .func (.func f) a b => some (.func (.func f) a b, H)
   | _ => none
 | .fieldAddr s x f => match ρ x with
   | .pointer (some ⟨A, i, some e⟩) => (oH P s f).bind fun fd => (iE P fd.type).bind fun n => if n == 0 then none else some (.pointer (some ⟨A, i + fd.offset, some e⟩), H)
   | _ => none
 | .indexAddr t x ix => match P.underlying t, ρ x, ρ ix with
   | some (.slice elem), .slice (some ⟨A, i, some e⟩) n _, .int _ j => (iE P elem).bind fun size =>
     if 0 ≤ j && j < n then some (.pointer (some ⟨A, i + j.toNat * size, some e⟩), H) else none
   | some (.array n elem), .pointer (some ⟨A, i, some e⟩), .int _ j => (iE P elem).bind fun size =>
     if 0 ≤ j && j < n then some (.pointer (some ⟨A, i + j.toNat * size, some e⟩), H) else none
   | some (.array n elem), .pointer (some ⟨A, i, none⟩), .int _ j => (iE P elem).bind fun size =>
     if 0 ≤ j && j < n then some (.pointer (some ⟨A, i + j.toNat * size, none⟩), H) else none
   | _, _, _ => none
 | .slice t x lo hi none => if flat (ρ x) then plain else match jU P t with
   | some (n, elem) => keep (a4R P H n elem (ρ x) (lo.map ρ) (hi.map ρ))
   | none => keep (xM P t (ρ x) (lo.map ρ) (hi.map ρ))
 | .field t x f => if flat (ρ x) then plain else
   match ρ x with
   | .agg cs => (oH P t f).bind fun fd => match jT P fd.type with
     | some true => (iE P fd.type).map fun n => (.agg (cs.extract fd.offset (fd.offset + n)), H)
     | some false => (cs[fd.offset]?).map fun v => (v, H)
     | none => none
   | _ => none
 | .extract t i => match ρ t with
   | .tuple vs => (vs[i]?).map fun v => (v, H)
   | _ => none
 | .makeFunc fn first captured => match fn with
   | .func f => if (first ++ captured).toList.all (fun x => pR (ρ x)) then some (.func (.func f) (first.map ρ) (captured.map ρ), H) else none
   | _ => none
 | .binOp op t x y _ => match op, ρ x, ρ y with
   | .eql, .slice (some _) _ _, .slice none 0 0 => if ((P.underlying t).map vW) == some true then some (.bool false, H) else none
   | .neq, .slice (some _) _ _, .slice none 0 0 => if ((P.underlying t).map vW) == some true then some (.bool true, H) else none
   | op, .int k a, .int k' b => if k = k' then (match mN op k a b with | some v => some (v, H) | none => plain) else plain
   | .eql, .pointer (some _), .pointer none => if uF P t then some (.bool false, H) else none
   | .neq, .pointer (some _), .pointer none => if uF P t then some (.bool true, H) else none
   | .eql, .pointer (some ⟨A, i, some e⟩), .pointer (some ⟨A', i', some e'⟩) => if uF P t && A == A' && i == i' && e == e' then some (.bool true, H) else none
   | .neq, .pointer (some ⟨A, i, some e⟩), .pointer (some ⟨A', i', some e'⟩) => if uF P t && A == A' && i == i' && e == e' then some (.bool false, H) else none
   | _, _, _ => plain
 | .call c => match c.callee with
   | .builtin .len => if c.args.size == 1 && c.argTypes.size == 1 then
      match (P.underlying (c.argTypes.getD 0 0)), ρ (c.args.getD 0 (.tmp 0)) with
      | some (.slice _), .slice a n k => keep (xV H (.slice a n k))
      | some .string, .string s => keep (xV H (.string s))
      | some (.map _ _), .map r => keep (xV H (.map r))
      | _, _ => none
     else none
   | .builtin .append => if c.args.size == 2 && c.argTypes.size == 2 && ((P.underlying (c.argTypes.getD 1 0)).map qA) == some true then
      nP P H (c.argTypes.getD 0 0) (ρ (c.args.getD 0 (.tmp 0))) (ρ (c.args.getD 1 (.tmp 0)))
     else none
   | .builtin .copy => if c.args.size == 2 && c.argTypes.size == 2 then a1p P H (c.argTypes.getD 0 0) (ρ (c.args.getD 0 (.tmp 0))) (ρ (c.args.getD 1 (.tmp 0))) else none
   | .builtin .clear => if c.args.size == 1 && c.argTypes.size == 1 then tA P H (c.argTypes.getD 0 0) (ρ (c.args.getD 0 (.tmp 0))) else none
   | .builtin .cap => plain
   | .builtin .unsafeSliceData => if c.args.size == 1 && c.argTypes.size == 1 then match ρ (c.args.getD 0 (.tmp 0)) with
      | .slice (some a) n _ => if n == 0 then none else some (.pointer (some a), H)
      | _ => none
     else none
   | .builtin .unsafeString => if c.args.size == 2 && c.argTypes.size == 2 then wB P H (c.argTypes.getD 0 0) (ρ (c.args.getD 0 (.tmp 0))) (ρ (c.args.getD 1 (.tmp 0))) else none
   | .builtin .max => plain
   | .builtin .min => plain
   | _ => none
 | .unOp op _ x => match op, ρ x with
   | .not, .bool b => some (.bool (!b), H)
   | _, _ => plain
 | .makeMap t r => pW P H t (r.map ρ)
 | .lookup t x k c => keep (pO P H t (ρ x) (ρ k) c)
 | .mapUpdate t m k v => (a1x P H t (ρ m) (ρ k) (ρ v)).map fun H => (undef, H)
 | .mapEntry t m k => tP P H t (ρ m) (ρ k)
 | .entryStore _ m b v => (rV H (ρ m) (ρ b) (ρ v)).map fun H => (undef, H)
 | .convert s t x => if flat (ρ x) && !(lF P t) then plain else match ρ x with
   | .slice (some ⟨A, i, some e⟩) n _ => if lF P s && oD P t then keep ((jE H A i e n).bind fun l => (nK l).map .string) else none
   | .string b => if lF P t && oD P s && b.size ≤ 2 ^ 40 then (iJ P t).bind fun elem => some (.slice (some ⟨H.length, 0, some b.size⟩) b.size 1, b4D H elem (b.data.toList.map fun c => .int .u8 c.toNat)) else none
   | .pointer (some ⟨A, 0, some e⟩) => if a4J P H s t A e then some (.pointer (some ⟨A, 0, some e⟩), H) else none
   | _ => none
 | .index _ _ _ => plain
 | .makeInterface _ _ => plain
 | _ => none
def nZ {α : Type} (b : Bool) (no : α) (x : α) : α := Bool.rec (motive := fun _ => α) no x b
def a7t {α : Type} (cs : List α) : Nat → Bool := List.rec (motive := fun _ => Nat → Bool) (fun e => Nat.beq e 0) (fun _ _ ih e => Nat.rec (motive := fun _ => Bool) true (fun m _ => ih m) e) cs
def a4e {α : Type} (cs : List α) : Nat → Bool := List.rec (motive := fun _ => Nat → Bool) (fun e => Nat.beq e 0) (fun _ _ ih e => Nat.rec (motive := fun _ => Bool) false (fun m _ => ih m) e) cs
def a1u {α : Type} (cs : List α) : Nat → Option α := List.rec (motive := fun _ => Nat → Option α) (fun _ => none) (fun v _ ih e => Nat.rec (motive := fun _ => Option α) (some v) (fun m _ => ih m) e) cs
def a3f {α : Type} (cs : List α) : Nat → (List α → Rs) → Rs := List.rec (motive := fun _ => Nat → (List α → Rs) → Rs) (fun n K => Nat.rec (motive := fun _ => Rs) (K []) (fun _ _ => .no) n) (fun v _ ih n K => Nat.rec (motive := fun _ => Rs) (K []) (fun m _ => ih m fun l => K (v :: l)) n) cs
def b1x {α : Type} (cs : List α) : Nat → List α := List.rec (motive := fun _ => Nat → List α) (fun _ => []) (fun v t ih n => Nat.rec (motive := fun _ => List α) (v :: t) (fun m _ => ih m) n) cs
def kIx (k : IntKind) : Nat := IntKind.rec (motive := fun _ => Nat) 0 1 2 3 4 5 6 7 k
def hMv (x : LArg) (f : Fr) (H : Heap) : Rs := oJ (mO f x) fun v => .ok v H
def b5V (c a b : LArg) (f : Fr) (H : Heap) : Rs := match mO f c with
 | .bool t => oJ (mO f (Bool.rec (motive := fun _ => LArg) b a t)) fun v => .ok v H
 | _ => .no
def oV (v : Option Value) (H : Heap) : Rs := Option.rec (motive := fun _ => Rs) .no (fun v => .th v H) v
def c0B (g : IntKind → Int → Int → Option Value) (k : IntKind) (a : Int) (H : Heap) (y : Value) : Rs := match y with
 | .int k' b => nZ (Nat.beq (kIx k) (kIx k')) .no (oV (g k a b) H)
 | _ => .no
def c3h (g : IntKind → Int → Int → Option Value) (x y : LArg) (f : Fr) (H : Heap) : Rs := match mO f x with
 | .int k a => c0B g k a H (mO f y)
 | _ => .no
def c6B (x : LArg) (f : Fr) (H : Heap) : Rs := match mO f x with
 | .bool b => .ok (.bool (Bool.rec (motive := fun _ => Bool) true false b)) H
 | _ => .no
def b9Y (b : Option Blk) (i e : Nat) (H : Heap) : Rs := match b with
 | some (.cells cs _ _ lo _) => nZ (Nat.ble lo e) .no (nZ (a7t cs e) .no (nZ (Nat.ble (Nat.succ i) e) .no (Option.rec (motive := fun _ => Rs) .no (fun v => oJ v fun v => .ok v H) (a1u cs i))))
 | _ => .no
def c1K (b : Option Blk) (i : Nat) (H : Heap) : Rs := match b with
 | some (.cells cs _ false lo 1) => nZ (a7t cs lo) .no (Option.rec (motive := fun _ => Rs) .no (fun v => oJ v fun v => .ok v H) (a1u cs i))
 | _ => .no
def b4m (x : LArg) (f : Fr) (H : Heap) : Rs := match mO f x with
 | .pointer (some ⟨A, i, some e⟩) => b9Y (iS H A) i e H
 | .pointer (some ⟨A, i, none⟩) => c1K (iS H A) i H
 | _ => .no
def b9S (b : Option Blk) (n i e : Nat) (H : Heap) : Rs := match b with
 | some (.cells cs _ _ lo _) => nZ (Nat.ble lo e) .no (nZ (a7t cs e) .no (nZ (Nat.ble (Nat.add i n) e) .no (a3f (b1x cs i) n fun l => .ok (.agg ⟨l⟩) H)))
 | _ => .no
def b3K (n : Nat) (x : LArg) (f : Fr) (H : Heap) : Rs := match mO f x with
 | .pointer (some ⟨A, i, some e⟩) => b9S (iS H A) n i e H
 | _ => .no
def stB (b : Option Blk) (n A i e : Nat) (vs : List Value) (H : Heap) : Rs := match b with
 | some (.cells cs ty true lo ver) => nZ (a4e vs n) .no (nZ (vs.all oneCell) .no (nZ (a4e cs e) .no (nZ (Nat.ble (Nat.add i n) e) .no (nZ (Nat.ble lo e) .no
    (.th undef (hset H A (.cells (iX cs i vs) ty true e ver)))))))
 | _ => .no
def hSt (n : Nat) (x y : LArg) (f : Fr) (H : Heap) : Rs := match mO f x with
 | .pointer (some ⟨A, i, some e⟩) => stB (iS H A) n A i e (mO f y).cells.toList H
 | _ => .no
def hFa (off : Nat) (x : LArg) (f : Fr) (H : Heap) : Rs := match mO f x with
 | .pointer (some ⟨A, i, some e⟩) => kF (Nat.add i off) fun i => .ok (.pointer (some ⟨A, i, some e⟩)) H
 | _ => .no
def ixP (A i e size n : Nat) (H : Heap) (j : Value) : Rs := match j with
 | .int _ (.ofNat j) => nZ (Nat.blt j n) .no (kF (Nat.add i (Nat.mul j size)) fun i => .ok (.pointer (some ⟨A, i, some e⟩)) H)
 | _ => .no
def c2q (size : Nat) (x i : LArg) (f : Fr) (H : Heap) : Rs := match mO f x with
 | .slice (some ⟨A, a, some e⟩) n _ => ixP A a e size n H (mO f i)
 | _ => .no
def ixG (A i size n : Nat) (H : Heap) (j : Value) : Rs := match j with
 | .int _ (.ofNat j) => nZ (Nat.blt j n) .no (kF (Nat.add i (Nat.mul j size)) fun i => .ok (.pointer (some ⟨A, i, none⟩)) H)
 | _ => .no
def c2r (n size : Nat) (x i : LArg) (f : Fr) (H : Heap) : Rs := match mO f x with
 | .pointer (some ⟨A, a, some e⟩) => ixP A a e size n H (mO f i)
 | .pointer (some ⟨A, a, none⟩) => ixG A a size n H (mO f i)
 | _ => .no
def okV (v : Option Value) (H : Heap) : Rs := Option.rec (motive := fun _ => Rs) .no (fun v => oJ v fun v => .ok v H) v
def c2z (i : Nat) (x : LArg) (f : Fr) (H : Heap) : Rs := match mO f x with
 | .tuple ⟨vs⟩ => okV (a1u vs i) H
 | _ => .no
def hF1 (off : Nat) (x : LArg) (f : Fr) (H : Heap) : Rs := match mO f x with
 | .agg ⟨cs⟩ => okV (a1u cs off) H
 | _ => .no
def hFn (off n : Nat) (x : LArg) (f : Fr) (H : Heap) : Rs := match mO f x with
 | .agg ⟨cs⟩ => a3f (b1x cs off) n fun l => .ok (.agg ⟨l⟩) H
 | _ => .no
def c2c (x : LArg) (f : Fr) (H : Heap) : Rs := match mO f x with
 | .slice _ n _ => .th (goInt n) H
 | _ => .no
def b5w (x : LArg) (f : Fr) (H : Heap) : Rs := match mO f x with
 | .string s => .th (goInt s.size) H
 | _ => .no
def c4M (b : Option Blk) (elem size bytes A i e k : Nat) (n : Nat) (l : List Value) (P : Program) (H : Heap) : Rs := match b with
 | some (.cells cs ty true lo ver) => nZ (Bool.rec (motive := fun _ => Bool) (iE P ty == some size) true (Nat.beq ty elem)) .no (nZ (a4e cs e) .no (nZ (Nat.ble lo e) .no
    (nZ (Nat.beq (Nat.add i (Nat.mul k size)) e)
      (nZ (Nat.beq n 0) (nZ (Nat.ble (Nat.add i (Nat.mul (Nat.add k n) size)) e) .no (.th (.slice (some ⟨A, i, some e⟩) (k + n) size) (hset H A (.cells (iX cs (i + k * size) l) ty true e ver)))) .no)
      (nZ (Nat.ble (Nat.mul (Nat.add k n) (Nat.succ bytes)) nY) .no (.th (.slice (some ⟨A, i, some (e + l.length)⟩) (k + n) size) (hset H A (.cells (a5c cs l) ty true lo (Bool.rec (motive := fun _ => Nat) 2 ver (Nat.beq ty elem)))))))))
 | _ => .no
def c5a (P : Program) (elem size bytes : Nat) (s : Value) (H : Heap) (n : Nat) (l : List Value) : Rs := match s with
 | .slice none k c => nZ (Nat.beq k 0) .no (nZ (Nat.beq c 0) .no (nZ (Nat.ble (Nat.mul n (Nat.succ bytes)) nY) .no (nZ (Nat.beq n 0) (.th (.slice (some ⟨H.length, 0, some l.length⟩) n size) (rU H elem l)) (.ok (.slice none 0 0) H))))
 | .slice (some ⟨A, i, some e⟩) k _ => c4M (iS H A) elem size bytes A i e k n l P H
 | _ => .no
def c2W (P : Program) (elem size bytes : Nat) (x y : LArg) (f : Fr) (H : Heap) : Rs := match a0w H size (mO f y) with
 | some (n, l) => c5a P elem size bytes (mO f x) H n l
 | none => .no
def c2S (t : TypeId) (cs : List Value) (_ : Fr) (H : Heap) : Rs := .th (.pointer (some ⟨H.length, 0, some cs.length⟩)) (rU H t cs)
def evF (f : Fr) : Operand → Value
 | .tmp t => oC (kU t) f
 | .const v => v
 | .global g => .pointer (some ⟨g, 0, none⟩)
 | .func k => .func (.func k) #[] #[]
def c7j (P : Program) (o : Oper) (f : Fr) (H : Heap) : Rs := match c2N P o (evF f) H with
 | some (v, H1) => .th v H1
 | none => .no
def a4N {α : Type} (f : Fr) (l : List LArg) : (List Value → α) → α := List.rec (motive := fun _ => (List Value → α) → α) (fun K => K []) (fun x _ ih K => oJ (mO f x) fun v => ih fun l => K (v :: l)) l
structure Calls' where
 fn : Pth → FuncId → List Value → Heap → Rs
 rd : Nat → List Value → Heap → Rs
def c2w (C : Calls') (k : FuncId) (p : Pth) (args : List LArg) (f : Fr) (H : Heap) : Rs := a4N f args fun l => C.fn p k l H
def b0U (C : Calls') (l : List Value) (H : Heap) (g : Value) : Rs := match g with
 | .func (.func k) ⟨a⟩ ⟨b⟩ => kF k fun k => lP (kU k) fun p => C.fn p k (a5c a (a5c l b)) H
 | .func (.yield L) _ _ => C.rd L l H
 | _ => .no
def c2e (C : Calls') (g : LArg) (args : List LArg) (f : Fr) (H : Heap) : Rs := a4N f args fun l => b0U C l H (mO f g)
def c6x (_ : Fr) (_ : Heap) : Rs := .no
def opF (P : Program) (C : Calls') (o : LOp) : Fr → Heap → Rs :=
 LOp.rec (motive := fun _ => Fr → Heap → Rs) c6x hMv b5V c3h c6B b4m b3K hSt hFa c2q c2r c2z hF1 hFn c2c b5w (c2W P) c2S (c2w C) (c2e C) (c7j P) o
inductive Rf where
 | no
 | ok (f : Fr) (H : Heap)
def uQ {α : Type} (d : Option Pth) (v : Value) (f : Fr) (K : Fr → α) : α := Option.rec (motive := fun _ => α) (K f) (fun p => pZ v p f K) d
def b1Y {α : Type} (no : α) (d : Option Pth) (f : Fr) (K : Fr → Heap → α) (r : Rs) : α :=
 Rs.rec (motive := fun _ => α) no (fun v H => uQ d v f fun f => K f H) (fun v H => zS v fun v => nR H fun H => uQ d v f fun f => K f H) r
def isB (v : Value) (w : Bool) : Bool := match v with
 | .bool b => Bool.rec (motive := fun _ => Bool) (Bool.rec (motive := fun _ => Bool) true false w) w b
 | _ => false
def zX (P : Program) (C : Calls') (ops : LOps) : Fr → Heap → Rf := LOps.rec (motive := fun _ => Fr → Heap → Rf)
 (fun f H => .ok f H)
 (fun d o _ ih f H => b1Y .no d f ih (opF P C o f H))
 (fun p w d o _ ih f H => nZ (isB (oC p f) w) (uQ d undef f fun f => ih f H) (b1Y .no d f ih (opF P C o f H))) ops
inductive Rt where
 | no
 | ok (tr : List (Fr × Heap × Value)) (f : Fr) (H : Heap)
def b2f (tr : List (Fr × Heap × Value)) (f0 : Fr) (H0 : Heap) (d : Option Pth) (K : List (Fr × Heap × Value) → Fr → Heap → Rt) (r : Rs) : Rt :=
 Rs.rec (motive := fun _ => Rt) .no (fun v H => uQ d v f0 fun f => K ((f0, H0, v) :: tr) f H) (fun v H => zS v fun v => nR H fun H => uQ d v f0 fun f => K ((f0, H0, v) :: tr) f H) r
def rP (P : Program) (C : Calls') (ops : LOps) : List (Fr × Heap × Value) → Fr → Heap → Rt := LOps.rec (motive := fun _ => List (Fr × Heap × Value) → Fr → Heap → Rt)
 (fun tr f H => .ok tr f H)
 (fun d o _ ih tr f H => b2f tr f H d ih (opF P C o f H))
 (fun p w d o _ ih tr f H => nZ (isB (oC p f) w) (uQ d undef f fun f1 => ih ((f, H, undef) :: tr) f1 H) (b2f tr f H d ih (opF P C o f H))) ops
def b8b (v : Value) (r : Rs) : Bool := Rs.rec (motive := fun _ => Bool) false (fun w _ => veq w v) (fun w _ => veq w v) r
def b5y (f : Fr) (g : Option (Pth × Bool)) : Bool := match g with
 | none => true
 | some (p, w) => isB (oC p f) w
def b5n (P : Program) (C : Calls') (tr : List (Fr × Heap × Value)) (H1 : Heap) (x : Nat × Option Nat × Option (Pth × Bool) × LOp) : Bool :=
 match a1u tr x.1 with
 | some (f, _, v) => nZ (b5y f x.2.2.1) true (match x.2.1 with
   | none => b8b v (opF P C x.2.2.2 f H1)
   | some m => match a1u tr m with
     | some (_, H, _) => b8b v (opF P C x.2.2.2 f H)
     | none => false)
 | none => false
def b5k {α : Type} (p : α → Bool) (l : List α) : Bool := List.rec (motive := fun _ => Bool) true (fun x _ ih => nZ (p x) false ih) l
inductive Rc where
 | no
 | ok (e : Ex) (f : Fr) (H : Heap)
def c5H (r : Rf) : Rc := Rf.rec (motive := fun _ => Rc) .no (fun f H => .ok .normal f H) r
def c0Q (P : Program) (C : Calls') (tab : List (Nat × Option Nat × Option (Pth × Bool) × LOp)) (r : Rt) : Rc := Rt.rec (motive := fun _ => Rc) .no (fun tr f H => nZ (b5k (b5n P C tr H) tab) .no (.ok .normal f H)) r
def pD {α : Type} (no : α) (l : List Value) : List Pth → Fr → (Fr → α) → α := List.rec (motive := fun _ => List Pth → Fr → (Fr → α) → α) (fun _ f K => K f)
 (fun v _ ih ps f K => List.rec (motive := fun _ => α) no (fun p ps _ => pZ v p f fun f => ih ps f K) ps) l
def a4c (H : Heap) (f : Fr) (r : LRes) : Rs := LRes.rec (motive := fun _ => Rs) (fun p => oJ (oC p f) fun v => .ok v H) (fun p => b4m (.t p) f H) (fun n p => b3K n (.t p) f H) r
def b6g (H : Heap) (f : Fr) (l : List LRes) : (List Value → Rs) → Rs := List.rec (motive := fun _ => (List Value → Rs) → Rs) (fun K => K []) (fun r _ ih K => Rs.rec (motive := fun _ => Rs) .no (fun v _ => ih fun l => K (v :: l)) (fun _ _ => .no) (a4c H f r)) l
def noT (v : Value) : Bool := match v with | .tuple _ => false | _ => true
def a8a (l : List LRes) (f : Fr) (H : Heap) : Rs := match l with
 | [r] => a4c H f r
 | l => b6g H f l fun vs => nZ (b5k noT vs) .no (.ok (.tuple ⟨vs⟩) H)
def c2i (l : List LRes) (r : Rc) : Rs := match r with
 | .ok .normal f H => a8a l f H
 | .ok .ret f H => a8a l f H
 | _ => .no
abbrev qJ := List LEnv → LCode → Fr → Heap → Rc
def c3u (P : Program) (k : FuncId) (args : List Value) (H : Heap) : Rs := match qK P k args H with
 | some (v, H1) => .th v H1
 | none => .no
def nA (T : LT) (ih : qJ) (E : List LEnv) (p : Pth) (args : List Value) (H : Heap) : Rs := match a2K p T with
 | some g => pD .no args g.ps .e fun f => c2i g.res (ih E g.body f H)
 | none => .no
def b6A (P : Program) (T : LT) (ih : qJ) (E : List LEnv) (p : Pth) (k : FuncId) (args : List Value) (H : Heap) : Rs := match a2K p T with
 | some g => pD .no args g.ps .e fun f => c2i g.res (ih E g.body f H)
 | none => c3u P k args H
def b7t (E : List LEnv) (L : Nat) : Option LEnv := List.rec (motive := fun _ => Option LEnv) none (fun e _ ih => nZ (Nat.beq e.L L) ih (some e)) E
def c1a (e : Ex) : Option Code := match e with | .normal => none | .ret => some .ret | .exit id => some (.exit id)
def a2l (L : Nat) (e : Ex) (H : Heap) : Rs := match iS H L with
 | some (.loop ⟨_, _, fn, tmps, ps, a, b, d⟩) => match c1a e with
   | none => .th (.bool true) (hset H L (.loop ⟨.ready, none, fn, tmps, ps, a, b, d⟩))
   | some c => .th (.bool false) (hset H L (.loop ⟨.done, some c, fn, tmps, ps, a, b, d⟩))
 | _ => .no
def b3U (L : Nat) (r : Rc) : Rs := match r with
 | .ok e _ H => a2l L e H
 | .no => .no
def a0K (ih : qJ) (E : List LEnv) (en : LEnv) (f : Fr) (H : Heap) : Rs := match iS H en.L with
 | some (.loop ⟨.ready, p, fn, tmps, ps, a, b, d⟩) => nR (hset H en.L (.loop ⟨.busy, p, fn, tmps, ps, a, b, d⟩)) fun H => b3U en.L (ih E en.b f H)
 | _ => .no
def tC (ih : qJ) (E : List LEnv) (en : LEnv) (r : Rc) : Rs := match r with
 | .ok .normal f H => a0K ih E en f H
 | _ => .no
def b0y (ih : qJ) (E : List LEnv) (L : Nat) (args : List Value) (H : Heap) : Rs := match b7t E L with
 | some en => match iS H L with
   | some (.loop ⟨.ready, _, _, ⟨tmps⟩, ps, _, _, _⟩) => nZ (a4e args ps.size) .no (pD .no tmps en.ps .e fun f => pD .no args en.pp f fun f => tC ih E en (ih E en.a f H))
   | _ => .no
 | none => .no
def a0a (P : Program) (T : LT) (ih : qJ) (E : List LEnv) : Calls' := ⟨b6A P T ih E, b0y ih E⟩
def c6R (_ : Fr) (_ : Heap) : Rc := .no
def c6m (f : Fr) (H : Heap) : Rc := .ok .normal f H
def c7w (P : Program) (T : LT) (ih : qJ) (E : List LEnv) (ops : LOps) (f : Fr) (H : Heap) : Rc := c5H (zX P (a0a P T ih E) ops f H)
def c6A (P : Program) (T : LT) (ih : qJ) (E : List LEnv) (ops : LOps) (tab : List (Nat × Option Nat × Option (Pth × Bool) × LOp)) (f : Fr) (H : Heap) : Rc := c0Q P (a0a P T ih E) tab (rP P (a0a P T ih E) ops [] f H)
def b8H (ih : qJ) (E : List LEnv) (b : LCode) (r : Rc) : Rc := match r with
 | .ok .normal f H => ih E b f H
 | r => r
def c6W (ih : qJ) (E : List LEnv) (a b : LCode) (_ _ : Fr → Heap → Rc) (f : Fr) (H : Heap) : Rc := b8H ih E b (ih E a f H)
def b7d (ih : qJ) (E : List LEnv) (c : LArg) (x y : LCode) (_ _ : Fr → Heap → Rc) (f : Fr) (H : Heap) : Rc := match mO f c with
 | .bool t => ih E (Bool.rec (motive := fun _ => LCode) y x t) f H
 | _ => .no
def c5X (id : Nat) (r : Rc) : Rc := match r with
 | .ok (.exit i) f H => .ok (Bool.rec (motive := fun _ => Ex) (.exit i) .normal (Nat.beq i id)) f H
 | r => r
def c3y (ih : qJ) (E : List LEnv) (id : Nat) (b : LCode) (_ : Fr → Heap → Rc) (f : Fr) (H : Heap) : Rc := c5X id (ih E b f H)
def c5V (ih : qJ) (E : List LEnv) (b : LCode) (_ : Fr → Heap → Rc) (f : Fr) (H : Heap) : Rc := b8H ih E (.loop b) (ih E b f H)
def c5C (id : Nat) (f : Fr) (H : Heap) : Rc := .ok (.exit id) f H
def c7E (f : Fr) (H : Heap) : Rc := .ok .ret f H
def frL {α : Type} (f : Fr) (ps : List Pth) : (List Value → α) → α := List.rec (motive := fun _ => (List Value → α) → α) (fun K => K []) (fun p _ ih K => oJ (oC p f) fun v => ih fun l => K (v :: l)) ps
def uR (L : Nat) (f : Fr) (H : Heap) : Rc := match iS H L with
 | some (.loop ⟨.ready, none, fn, tmps, ps, a, b, d⟩) => nR (hset H L (.loop ⟨.exhausted, none, fn, tmps, ps, a, b, d⟩)) fun H => .ok .normal f H
 | some (.loop ⟨.done, none, fn, tmps, ps, a, b, d⟩) => nR (hset H L (.loop ⟨.exhausted, none, fn, tmps, ps, a, b, d⟩)) fun H => .ok .normal f H
 | some (.loop ⟨.done, some .ret, fn, tmps, ps, a, b, d⟩) => nR (hset H L (.loop ⟨.exhausted, some .ret, fn, tmps, ps, a, b, d⟩)) fun H => .ok .ret f H
 | some (.loop ⟨.done, some (.exit id), fn, tmps, ps, a, b, d⟩) => nR (hset H L (.loop ⟨.exhausted, some (.exit id), fn, tmps, ps, a, b, d⟩)) fun H => .ok (.exit id) f H
 | _ => .no
def b3k (L : Nat) (f : Fr) (r : Rs) : Rc := match r with
 | .no => .no
 | .ok _ H => uR L f H
 | .th _ H => nR H fun H => uR L f H
def b1S (T : LT) (ih : qJ) (E : List LEnv) (f : Fr) (L : Nat) (k : FuncId) (args : List Value) (H : Heap) : Rc := lP (kU k) fun p => b3k L f (nA T ih E p args H)
def a8S (T : LT) (ih : qJ) (E : List LEnv) (g : LArg) (ps pp : List Pth) (params : Array Tmp) (assign body : Code) (a b : LCode) (_ _ : Fr → Heap → Rc) (f : Fr) (H : Heap) : Rc := match mO f g with
 | .func (.func k) ⟨x⟩ ⟨y⟩ => kF H.length fun L => frL f ps fun l => nR (H.cons (.loop ⟨.ready, none, 0, ⟨l⟩, params, assign, body, 0⟩)) fun H1 =>
    kF k fun k => b1S T ih (⟨L, ps, pp, a, b⟩ :: E) f L k (a5c x (.func (.yield L) #[] #[] :: y)) H1
 | _ => .no
def b1q (P : Program) (T : LT) (ih : qJ) (E : List LEnv) (c : LCode) : Fr → Heap → Rc :=
 LCode.rec (motive := fun _ => Fr → Heap → Rc) c6R c6m (c7w P T ih E) (c6A P T ih E) (c6W ih E) (b7d ih E) (c3y ih E) (c5V ih E) c5C c7E (a8S T ih E) c
def exF (P : Program) (T : LT) (n : Nat) : qJ := Nat.rec (motive := fun _ => qJ) (fun _ _ _ _ => .no) (fun _ ih => b1q P T ih) n
section
variable {α : Type}
def lT (x : Operand) (K : LArg → α) : α := match x with
 | .tmp t => lP (kU t) fun p => K (.t p)
 | .const v => K (.c v)
 | .global g => K (.c (.pointer (some ⟨g, 0, none⟩)))
 | .func k => K (.c (.func (.func k) #[] #[]))
def a5z (l : List Operand) : (List LArg → α) → α := List.rec (motive := fun _ => (List LArg → α) → α) (fun K => K []) (fun x _ ih K => lT x fun x => ih fun l => K (x :: l)) l
def a3u (o : Option Nat) (d : α) (K : Nat → α) : α := match o with
 | some n => kF n K
 | none => d
def c6H (k : IntKind) (a b : Int) : Option Value := some (.int k (wS k (b8r a b)))
def c6L (k : IntKind) (a b : Int) : Option Value := some (.int k (wS k (b8L a b)))
def c6c (a b : Int) : Int := match a, b with
 | .ofNat a, .ofNat b => .ofNat (Nat.mul a b)
 | a, b => a * b
def c6a (k : IntKind) (a b : Int) : Option Value := some (.int k (wS k (c6c a b)))
def c5m (a b : Int) : Int := match a, b with
 | .ofNat a, .ofNat b => .ofNat (Nat.div a b)
 | a, b => a.tdiv b
def c4m (a b : Int) : Int := match a, b with
 | .ofNat a, .ofNat b => .ofNat (Nat.mod a b)
 | a, b => a.tmod b
def b8Z (k : IntKind) (a b : Int) : Option Value := match eqI b 0 with | true => none | false => some (.int k (wS k (c5m a b)))
def b8U (k : IntKind) (a b : Int) : Option Value := match eqI b 0 with | true => none | false => some (.int k (c4m a b))
def c6s (_ : IntKind) (a b : Int) : Option Value := some (.bool (eqI a b))
def c6I (_ : IntKind) (a b : Int) : Option Value := some (.bool (!eqI a b))
def c7U (_ : IntKind) (a b : Int) : Option Value := some (.bool (ltI a b))
def c7R (_ : IntKind) (a b : Int) : Option Value := some (.bool (!ltI b a))
def c7n (_ : IntKind) (a b : Int) : Option Value := some (.bool (ltI b a))
def c6v (_ : IntKind) (a b : Int) : Option Value := some (.bool (!ltI a b))
def b9i (op : BinOp) : Option (IntKind → Int → Int → Option Value) := match op with
 | .add => some c6H
 | .sub => some c6L
 | .mul => some c6a
 | .quo => some b8Z
 | .rem => some b8U
 | .eql => some c6s
 | .neq => some c6I
 | .lss => some c7U
 | .leq => some c7R
 | .gtr => some c7n
 | .geq => some c6v
 | _ => none
def c2y (d : Option TypeDesc) : Bool := match d with | some (.int _) => true | _ => false
def c7V (P : Program) (s : TypeId) (f : Nat) (d : α) (K1 : Nat → α) (Kn : Nat → Nat → α) : α := match oH P s f with
 | some fd => kF fd.offset fun off => match jT P fd.type with
   | some true => a3u (iE P fd.type) d fun n => Kn off n
   | some false => K1 off
   | none => d
 | none => d
def b4G (P : Program) (o : Oper) (c : Call) (K : LOp → α) : α := match c.callee with
 | .value (.func k) => lP (kU k) fun p => a5z c.args.toList fun l => K (.callF k p l)
 | .value g => lT g fun g => a5z c.args.toList fun l => K (.callV g l)
 | .builtin .len => nZ (c.args.size == 1 && c.argTypes.size == 1) (K (.gen o)) (match P.underlying (c.argTypes.getD 0 0) with
    | some (.slice _) => lT (c.args.getD 0 (.tmp 0)) fun x => K (.len x)
    | some .string => lT (c.args.getD 0 (.tmp 0)) fun x => K (.slen x)
    | _ => K (.gen o))
 | .builtin .append => nZ (c.args.size == 2 && c.argTypes.size == 2 && ((P.underlying (c.argTypes.getD 1 0)).map qA) == some true) (K (.gen o))
    (match iJ P (c.argTypes.getD 0 0) with
     | some elem => a3u (iE P elem) (K (.gen o)) fun size => a3u (mP P elem) (K (.gen o)) fun bytes => match jA P elem with
       | some z => nZ (z.cells.size == size && size != 0) (K (.gen o)) (kF elem fun elem => lT (c.args.getD 0 (.tmp 0)) fun x => lT (c.args.getD 1 (.tmp 0)) fun y => K (.app elem size bytes x y))
       | none => K (.gen o)
     | none => K (.gen o))
 | _ => K (.gen o)
def c3R (P : Program) (o : Oper) (K : LOp → α) : α := match o.op with
 | .move x => lT x fun x => K (.mv x)
 | .assign x => lT x fun x => K (.mv x)
 | .pick c a b => lT c fun c => lT a fun a => lT b fun b => K (.pick c a b)
 | .binOp op t x y _ => nZ (c2y (P.underlying t)) (K (.gen o)) (match b9i op with
   | some g => lT x fun x => lT y fun y => K (.bin g x y)
   | none => K (.gen o))
 | .load t x => match jT P t with
   | some true => a3u (iE P t) (K (.gen o)) fun n => lT x fun x => K (.ldn n x)
   | some false => lT x fun x => K (.ld1 x)
   | none => K (.gen o)
 | .store t x y => a3u (iE P t) (K (.gen o)) fun n => lT x fun x => lT y fun y => K (.st n x y)
 | .fieldAddr s x f => match oH P s f with
   | some fd => match iE P fd.type with
     | some 0 => K (.gen o)
     | some _ => kF fd.offset fun off => lT x fun x => K (.fa off x)
     | none => K (.gen o)
   | none => K (.gen o)
 | .indexAddr t x i => match P.underlying t with
   | some (.slice elem) => a3u (iE P elem) (K (.gen o)) fun size => lT x fun x => lT i fun i => K (.ixs size x i)
   | some (.array n elem) => a3u (iE P elem) (K (.gen o)) fun size => lT x fun x => lT i fun i => K (.ixa n size x i)
   | _ => K (.gen o)
 | .extract t i => kF i fun i => lT t fun t => K (.ext i t)
 | .call c => b4G P o c K
 | _ => K (.gen o)
def zK (P : Program) (o : Oper) (K : LOp → α) : α := nZ (o.op.operands.toList.all iQ) (K .bad) (c3R P o K)
def a8n (k : Nat) (d : Option Tmp) (no : α) (K : Option Pth → α) : α := match d with
 | none => K none
 | some t => nZ (Nat.blt t k) no (lP (kU t) fun p => K (some p))
def uY (P : Program) (k : Nat) (ops : Array Oper) (l : List Oper) : (LOps → α) → α → α := List.rec (motive := fun _ => (LOps → α) → α → α) (fun K _ => K .nil)
 (fun o _ ih K no => a8n k o.dst no fun d => zK P o fun o' => match o.guard with
   | none => ih (fun r => K (.cons d o' r)) no
   | some (j, w) => match (ops[j]?).bind (·.dst) with
     | some t => nZ (Nat.blt t k) no (lP (kU t) fun p => a0B w fun w => ih (fun r => K (.gcons p w d o' r)) no)
     | none => no) l
def loG (k : Nat) (ops : Array Oper) (g : Option (Nat × Bool)) (no : α) (K : Option (Pth × Bool) → α) : α := match g with
 | none => K none
 | some (j, w) => match (ops[j]?).bind (·.dst) with
   | some t => nZ (Nat.blt t k) no (lP (kU t) fun p => a0B w fun w => K (some (p, w)))
   | none => no
def uH (P : Program) (k : Nat) (ops : Array Oper) (N : Nat) (tab : List (Nat × Nat)) : (List (Nat × Option Nat × Option (Pth × Bool) × LOp) → α) → α → α := List.rec (motive := fun _ => (List (Nat × Option Nat × Option (Pth × Bool) × LOp) → α) → α → α) (fun K _ => K [])
 (fun x _ ih K no => match ops[x.1]? with
   | some o => loG k ops o.guard no fun g => zK P o fun o' => kF (N - 1 - x.1) fun i => nZ (Nat.blt x.2 N) (ih (fun l => K ((i, none, g, o') :: l)) no) (kF (N - 1 - x.2) fun m => ih (fun l => K ((i, some m, g, o') :: l)) no)
   | none => no) tab
def b6Z (k : Nat) : (List Pth → α) → α := Nat.rec (motive := fun _ => (List Pth → α) → α) (fun K => K []) (fun n ih K => lP (kU n) fun p => ih fun l => K (p :: l)) k
def c1B {β : Type} (l : List β) : List β → (List β → α) → α := List.rec (motive := fun _ => List β → (List β → α) → α) (fun a K => K a) (fun x _ ih a K => ih (x :: a) K) l
def b4f (k : Nat) (K : List Pth → α) : α := b6Z k fun l => c1B l [] K
def xF (k : Nat) (l : List Tmp) : (List Pth → α) → α → α := List.rec (motive := fun _ => (List Pth → α) → α → α) (fun K _ => K []) (fun t _ ih K no => nZ (Nat.blt t k) no (lP (kU t) fun p => ih (fun l => K (p :: l)) no)) l
def nH (P : Program) (k : Nat) (c : Code) : (LCode → α) → α := Code.rec (motive := fun _ => (LCode → α) → α)
 (fun K => K .skip)
 (fun _ ops d K => Bool.rec (motive := fun _ => α) (uY P k ops ops.toList (fun l => K (.reg l)) (K .bad))
   (match nE P ops with
     | some [] => uY P k ops ops.toList (fun l => K (.reg l)) (K .bad)
     | some tab => uY P k ops ops.toList (fun l => uH P k ops ops.size tab (fun t => K (.drw l t)) (K .bad)) (K .bad)
     | none => K .bad) d)
 (fun _ _ iha ihb K => iha fun a => ihb fun b => K (.seq a b))
 (fun c _ _ ihx ihy K => nZ (iQ c) (K .bad) (lT c fun c => ihx fun x => ihy fun y => K (.cond c x y)))
 (fun id _ ih K => kF id fun id => ih fun b => K (.block id b))
 (fun _ ih K => ih fun b => K (.loop b))
 (fun g ps assign body iha ihb K => nZ (iQ g) (K .bad) (lT g fun g' => b4f k fun pp => xF k ps.toList (fun q => iha fun a => ihb fun b => K (.range g' pp q ps assign body a b)) (K .bad)))
 (fun id K => kF id fun id => K (.exit id))
 (fun _ _ K => K .bad)
 (fun _ K => K .skip)
 (fun _ K => K .bad)
 (fun K => K .ret)
 (fun _ K => K .bad) c
def a1c (P : Program) (l : List ResultVar) : (List LRes → α) → α → α := List.rec (motive := fun _ => (List LRes → α) → α → α) (fun K _ => K [])
 (fun r _ ih K no => match r with
   | .tmp t => lP (kU t) fun p => ih (fun l => K (.t p :: l)) no
   | .cell a t => match jT P t with
     | some true => a3u (iE P t) no fun n => lP (kU a) fun p => ih (fun l => K (.cn n p :: l)) no
     | some false => lP (kU a) fun p => ih (fun l => K (.c1 p :: l)) no
     | none => no) l
def a2j (P : Program) (f : FuncId) (no : α) (K : LFunc → α) : α := match P.funcs[f]? with
 | some fn => match fn.body with
   | some c => nZ (fn.name == "runtime.NumGoroutine") (a1c P fn.results.toList (fun res => b4f fn.ntmps fun ps => nH P fn.ntmps c fun b => K ⟨ps, b, res⟩) no) no
   | none => no
 | none => no
def uI (P : Program) (fs : List FuncId) : LT → (LT → α) → α := List.rec (motive := fun _ => LT → (LT → α) → α) (fun T K => K T)
 (fun f _ ih T K => a2j P f (ih T K) fun g => lP (kU f) fun p => sD g p T fun T => ih T K) fs
end
end
end Go.Ds
namespace Go.Ds
section
variable {α : Type}
theorem wD (f k : Nat) : a6b (f + 1) (k + 1) = if k % 2 = 0 then .l (a6b f (k / 2)) else .r (a6b f (k / 2)) := by
 show Bool.rec (motive := fun _ => Pth) (.r (a6b f (k / 2))) (.l (a6b f (k / 2))) (Nat.beq (k % 2) 0) = _
 by_cases h : k % 2 = 0
 ·rw [if_pos h, h]; rfl
 ·rw [if_neg h]
  have : Nat.beq (k % 2) 0 = false := fV.2 fun e => h (dU e)
  rw [this]
theorem a4B (f : Nat) : a6b f 0 = .z := by cases f <;> rfl
theorem a1Q : ∀ (f g a b : Nat), a ≤ f → b ≤ g → a6b f a = a6b g b → a = b
 | _, _, 0, 0, _, _, _ => rfl
 | 0, _, a + 1, _, h, _, _ => by omega
 | _, 0, _, b + 1, _, h, _ => by omega
 | f, g + 1, 0, b + 1, _, _, h => by
   rw [a4B, wD] at h
   split at h <;> cases h
 | f + 1, g, a + 1, 0, _, _, h => by
   rw [a4B, wD] at h
   split at h <;> cases h
 | f + 1, g + 1, a + 1, b + 1, ha, hb, h => by
   rw [wD, wD] at h
   by_cases h1 : a % 2 = 0
   ·rw [if_pos h1] at h
    by_cases h2 : b % 2 = 0
    ·rw [if_pos h2] at h
     injection h with h
     have := a1Q f g (a / 2) (b / 2) (by omega) (by omega) h
     omega
    ·rw [if_neg h2] at h; cases h
   ·rw [if_neg h1] at h
    by_cases h2 : b % 2 = 0
    ·rw [if_pos h2] at h; cases h
    ·rw [if_neg h2] at h
     injection h with h
     have := a1Q f g (a / 2) (b / 2) (by omega) (by omega) h
     omega
theorem b2m {a b : Nat} (h : kU a = kU b) : a = b := a1Q _ _ _ _ (dh _) (dh _) h
theorem lO (p : Pth) (K : Pth → α) : lP p K = K p := by
 induction p generalizing K with
 | z => rfl
 | l p ih => exact ih _
 | r p ih => exact ih _
theorem mW (v : Value) (K : Value → α) : oJ v K = K v := by cases v <;> rfl
theorem tK (v : Value) (p : Pth) (f : Fr) (K : Fr → α) : pZ v p f K = K (pZ v p f fun f => f) := by
 induction p generalizing f α with
 | z => cases f <;> rfl
 | l p ih =>
   cases f with
   | e =>
     show pZ v p .e (fun l => K (.n undef l .e)) = K (pZ v p .e fun l => .n undef l .e)
     rw [ih, ih (K := fun l => Fr.n undef l .e)]
   | n w l r =>
     show pZ v p l (fun l => K (.n w l r)) = K (pZ v p l fun l => .n w l r)
     rw [ih, ih (K := fun l => Fr.n w l r)]
 | r p ih =>
   cases f with
   | e =>
     show pZ v p .e (fun l => K (.n undef .e l)) = K (pZ v p .e fun l => .n undef .e l)
     rw [ih, ih (K := fun l => Fr.n undef .e l)]
   | n w l r =>
     show pZ v p r (fun r => K (.n w l r)) = K (pZ v p r fun r => .n w l r)
     rw [ih, ih (K := fun r => Fr.n w l r)]
theorem vF (p : Pth) : oC p .e = undef := by
 cases p <;> rfl
theorem b3e (v : Value) (p q : Pth) (f : Fr) : (q = p → oC q (pZ v p f fun f => f) = v) ∧ (q ≠ p → oC q (pZ v p f fun f => f) = oC q f) := by
 induction p generalizing f q with
 | z =>
   refine ⟨fun h => ?_, fun h => ?_⟩
   ·subst h; cases f <;> rfl
   ·cases q with
    | z => exact absurd rfl h
    | l q =>
      cases f with
      | e => show oC q .e = undef; exact vF q
      | n => rfl
    | r q =>
      cases f with
      | e => show oC q .e = undef; exact vF q
      | n => rfl
 | l p ih =>
   have h1 : ∀ f, pZ v (.l p) f (fun f => f) = match f with | .e => .n undef (pZ v p .e fun f => f) .e | .n w l r => .n w (pZ v p l fun f => f) r := fun f => by
    cases f with
    | e => exact tK v p .e fun l => Fr.n undef l .e
    | n w l r => exact tK v p l fun l => Fr.n w l r
   rw [h1]
   cases q with
   | z => exact ⟨fun h => (nomatch h), fun _ => by cases f <;> rfl⟩
   | r q =>
     refine ⟨fun h => (nomatch h), fun _ => ?_⟩
     cases f with
     | e => show oC q .e = undef; exact vF q
     | n => rfl
   | l q =>
     refine ⟨fun h => ?_, fun h => ?_⟩
     ·injection h with h
      cases f with
      | e => exact (ih q .e).1 h
      | n w l r => exact (ih q l).1 h
     ·have h : q ≠ p := fun e => h (by rw [e])
      cases f with
      | e => show oC q (pZ v p .e fun f => f) = undef; rw [(ih q .e).2 h, vF]
      | n w l r => exact (ih q l).2 h
 | r p ih =>
   have h1 : ∀ f, pZ v (.r p) f (fun f => f) = match f with | .e => .n undef .e (pZ v p .e fun f => f) | .n w l r => .n w l (pZ v p r fun f => f) := fun f => by
    cases f with
    | e => exact tK v p .e fun l => Fr.n undef .e l
    | n w l r => exact tK v p r fun r => Fr.n w l r
   rw [h1]
   cases q with
   | z => exact ⟨fun h => (nomatch h), fun _ => by cases f <;> rfl⟩
   | l q =>
     refine ⟨fun h => (nomatch h), fun _ => ?_⟩
     cases f with
     | e => show oC q .e = undef; exact vF q
     | n => rfl
   | r q =>
     refine ⟨fun h => ?_, fun h => ?_⟩
     ·injection h with h
      cases f with
      | e => exact (ih q .e).1 h
      | n w l r => exact (ih q r).1 h
     ·have h : q ≠ p := fun e => h (by rw [e])
      cases f with
      | e => show oC q (pZ v p .e fun f => f) = undef; rw [(ih q .e).2 h, vF]
      | n w l r => exact (ih q r).2 h
def FAg (f : Fr) (l : List Value) : Prop := ∀ t, oC (kU t) f = get l t
def FRel (k : Nat) (f : Fr) (l : List Value) : Prop := l.length = k ∧ FAg f l
noncomputable def b5e (f : Fr) (t : Tmp) (v : Value) : Fr := pZ v (kU t) f fun f => f
theorem a4g (f : Fr) (t u : Tmp) (v : Value) : oC (kU u) (b5e f t v) = if u = t then v else oC (kU u) f := by
 have h := b3e v (kU t) (kU u) f
 by_cases he : u = t
 ·rw [if_pos he]; exact h.1 (by rw [he])
 ·rw [if_neg he]; exact h.2 (fun e => he (b2m e))
theorem FRel.put {k : Nat} {f : Fr} {l : List Value} (h : FRel k f l) {t : Tmp} (ht : t < k) (v : Value) : FRel k (b5e f t v) (Go.Ds.put l (some t) v) := by
 refine ⟨by simp [Go.Ds.put, nF, h.1], fun u => ?_⟩
 rw [a4g, b1J]
 by_cases he : u = t
 ·subst he; rw [if_pos rfl, if_pos ⟨rfl, by rw [h.1]; exact ht⟩]
 ·rw [if_neg he, if_neg (fun hh => he (cW hh.1).symm)]; exact h.2 u
theorem FRel.set {k : Nat} {f : Fr} {l : List Value} (h : FRel k f l) {t : Tmp} (ht : t < k) (v : Value) : FRel k (b5e f t v) (l.set t v) := by
 have := h.put ht v
 simpa [Go.Ds.put, nF] using this
def Rs.Is (r : Rs) (v : Value) (H : Heap) : Prop := r = .ok v H ∨ r = .th v H
theorem Rs.ar {v : Value} {H : Heap} : ¬ Rs.no.Is v H := by rintro (h | h) <;> cases h
theorem Rs.aM {v w : Value} {H H1 : Heap} (h : (Rs.ok v H).Is w H1) : w = v ∧ H1 = H := by
 rcases h with h | h
 ·injection h with a b; exact ⟨a.symm, b.symm⟩
 ·cases h
theorem Rs.aT {v w : Value} {H H1 : Heap} (h : (Rs.th v H).Is w H1) : w = v ∧ H1 = H := by
 rcases h with h | h
 ·cases h
 ·injection h with a b; exact ⟨a.symm, b.symm⟩
theorem kT (b : Bool) (no x : α) : nZ b no x = if b = true then x else no := by cases b <;> rfl
theorem lI {b : Bool} {x : Rs} {v : Value} {H : Heap} (h : (nZ b Rs.no x).Is v H) : b = true ∧ x.Is v H := by
 cases b with
 | false => exact absurd h Rs.ar
 | true => exact ⟨rfl, h⟩
theorem yI {β : Type} : ∀ (cs : List β) (e : Nat), a7t cs e = decide (e ≤ cs.length)
 | [], 0 => rfl
 | [], e + 1 => by simp; rfl
 | _ :: _, 0 => rfl
 | _ :: cs, e + 1 => by show a7t cs e = _; rw [yI cs e]; simp
theorem zO {β : Type} : ∀ (cs : List β) (e : Nat), a4e cs e = decide (e = cs.length)
 | [], 0 => rfl
 | [], e + 1 => by simp; rfl
 | _ :: _, 0 => by simp; rfl
 | _ :: cs, e + 1 => by show a4e cs e = _; rw [zO cs e]; simp
theorem yO {β : Type} : ∀ (cs : List β) (e : Nat), a1u cs e = cs[e]?
 | [], _ => rfl
 | _ :: _, 0 => rfl
 | _ :: cs, e + 1 => by show a1u cs e = _; rw [yO cs e]; simp
theorem a7d {β : Type} : ∀ (cs : List β) (e : Nat), b1x cs e = cs.drop e
 | [], e => by cases e <;> rfl
 | _ :: _, 0 => rfl
 | _ :: cs, e + 1 => by show b1x cs e = _; rw [a7d cs e]; rfl
theorem a8p {β : Type} : ∀ {cs : List β} {n : Nat} {K : List β → Rs} {v : Value} {H : Heap}, (a3f cs n K).Is v H → n ≤ cs.length ∧ (K (cs.take n)).Is v H
 | [], 0, K, v, H, h => ⟨dh _, h⟩
 | [], n + 1, K, v, H, h => absurd h Rs.ar
 | _ :: _, 0, K, v, H, h => ⟨eW _, h⟩
 | c :: cs, n + 1, K, v, H, h => by
   have h' : (a3f cs n fun l => K (c :: l)).Is v H := h
   obtain ⟨h1, h2⟩ := a8p h'
   exact ⟨by simp; omega, h2⟩
theorem b7T {a b : IntKind} (h : Nat.beq (kIx a) (kIx b) = true) : a = b := by
 cases a <;> cases b <;> first | rfl | (exact absurd h (by decide))
theorem b6b (k : Nat) (K : List Pth → α) : b6Z k K = K ((List.range k).map kU).reverse := by
 induction k generalizing K with
 | zero => rfl
 | succ n ih =>
   show lP (kU n) (fun p => b6Z n fun l => K (p :: l)) = _
   rw [lO, ih, ec]
   simp
theorem b9t {β : Type} (l : List β) : ∀ (a : List β) (K : List β → α), c1B l a K = K (l.reverse ++ a) := by
 induction l with
 | nil => intro a K; rfl
 | cons x l ih => intro a K; show c1B l (x :: a) K = _; rw [ih]; simp
theorem b2o (k : Nat) (K : List Pth → α) : b4f k K = K ((List.range k).map kU) := by
 unfold b4f; rw [b6b, b9t]; simp
theorem pF (n : Nat) (d : α) (K : Nat → α) : a3u (some n) d K = K n := kB n K
def LK (H H' : Heap) : Prop := H.length ≤ H'.length ∧ ∀ A r', A < H.length → iS H' A = some (.loop r') →
 ∃ r, iS H A = some (.loop r) ∧ r'.assign = r.assign ∧ r'.body = r.body ∧ r'.params = r.params ∧ r'.tmps = r.tmps
theorem LK.refl (H : Heap) : LK H H := ⟨dh _, fun _ r _ h => ⟨r, h, rfl, rfl, rfl, rfl⟩⟩
theorem LK.trans {H H1 H2 : Heap} (h : LK H H1) (k : LK H1 H2) : LK H H2 := ⟨dB h.1 k.1, fun A r' hA hr => by
 obtain ⟨r1, h1, a1, b1, c1, d1⟩ := k.2 A r' (dL hA h.1) hr
 obtain ⟨r, h2, a2, b2, c2, d2⟩ := h.2 A r1 hA h1
 exact ⟨r, h2, a1.trans a2, b1.trans b2, c1.trans c2, d1.trans d2⟩⟩
def Blk.cb : Blk → Bool
 | .loop _ => true
 | _ => false
theorem LK.hset (H : Heap) (A : Nat) {b : Blk} (hb : b.cb = false) : LK H (hset H A b) := by
 refine ⟨by rw [jQ]; exact dh _, fun B r' hB h => ?_⟩
 by_cases he : A = B
 ·subst he; rw [iT _ hB] at h; injection h with h; subst h; cases hb
 ·rw [jB _ he] at h; exact ⟨r', h, rfl, rfl, rfl, rfl⟩
theorem LK.cons (H : Heap) (b : Blk) : LK H (H.cons b) := by
 refine ⟨by rw [length_cons]; omega, fun B r' hB h => ?_⟩
 rw [jP b hB] at h; exact ⟨r', h, rfl, rfl, rfl, rfl⟩
theorem LK.row (H : Heap) (ty : TypeId) (cs : List Value) : LK H (rU H ty cs) := by rw [lG]; exact .cons _ _
theorem LK.loop {H : Heap} {L : Nat} {r r' : Loop} (h : iS H L = some (.loop r)) (e : r'.assign = r.assign ∧ r'.body = r.body ∧ r'.params = r.params ∧ r'.tmps = r.tmps) : LK H (Go.Ds.hset H L (.loop r')) := by
 refine ⟨by rw [jQ]; exact dh _, fun B r2 hB hg => ?_⟩
 by_cases he : L = B
 ·subst he; rw [iT _ hB] at hg; injection hg with hg; injection hg with hg; subst hg; exact ⟨r, h, e⟩
 ·rw [jB _ he] at hg; exact ⟨r2, hg, rfl, rfl, rfl, rfl⟩
variable {P : Program}
theorem a6H {H H' : Heap} {t : TypeId} {p v : Value} (h : rG P H t p v = some H') : LK H H' := by
 unfold rG at h
 split at h
 ·split at h
  ·dsimp only at h
   split at h
   ·injection h with h; subst h; exact .hset _ _ rfl
   ·cases h
  ·cases h
 ·cases h
theorem a3L {H H' : Heap} {t : TypeId} {v r : Value} (h : xI P H t v = some (r, H')) : LK H H' := by
 unfold xI at h
 dsimp only at h
 split at h
 ·injection h with h; injection h with _ h; subst h; exact .row _ _ _
 ·cases h
theorem a5W {H H' : Heap} {t : TypeId} {s x r : Value} (h : nP P H t s x = some (r, H')) : LK H H' := by
 unfold nP at h
 simp only [cZ] at h
 obtain ⟨elem, _, size, _, bytes, _, z, _, ⟨n, l⟩, _, h⟩ := h
 try dsimp only at h
 split at h
 ·split at h
  ·split at h
   ·injection h with h; injection h with _ h; subst h; exact .refl _
   ·injection h with h; injection h with _ h; subst h; exact .row _ _ _
  ·cases h
 ·split at h
  ·split at h
   ·injection h with h; injection h with _ h; subst h; exact .hset _ _ rfl
   ·split at h
    ·injection h with h; injection h with _ h; subst h; exact .hset _ _ rfl
    ·cases h
  ·cases h
 ·cases h
theorem a7S {H H' : Heap} {t : TypeId} {v r : Value} (h : qW P H t v = some (r, H')) : LK H H' := by
 unfold qW at h
 split at h
 ·dsimp only at h
  rename_i n elem _
  have key : ∀ (b : Bool), (if b = true then some (Value.pointer (some ⟨H.length, 0, some v.cells.toList.length⟩), b7m H elem v.cells.toList) else none) = some (r, H') → LK H H' := by
   intro b h
   cases b
   ·cases h
   ·injection h with h; injection h with _ h; subst h; rw [a1L]; exact .cons _ _
  exact key _ h
 ·exact a3L h
theorem a5E {H H' : Heap} {t : TypeId} {x y r : Value} (h : wB P H t x y = some (r, H')) : LK H H' := by
 unfold wB at h
 split at h
 ·split at h
  ·split at h
   ·simp only [dg] at h
    obtain ⟨_, _, h⟩ := h
    injection h with _ h; subst h; exact .hset _ _ rfl
   ·cases h
  ·cases h
 ·cases h
theorem a5b {H H' : Heap} {k : FuncId} {args : List Value} {r : Value} (h : qK P k args H = some (r, H')) : LK H H' := by
 unfold qK at h
 simp only [cZ] at h
 obtain ⟨fn, _, h⟩ := h
 split at h
 case isFalse => cases h
 split at h
 ·split at h
  ·injection h with h; injection h with _ h; subst h; exact .refl _
  ·cases h
 split at h
 ·split at h
  ·split at h
   ·simp only [cZ] at h
    obtain ⟨_, _, h⟩ := h
    split at h
    ·injection h with h; injection h with _ h; subst h; exact .row _ _ _
    ·cases h
   ·cases h
  ·cases h
 split at h
 ·split at h
  ·split at h
   ·split at h
    ·injection h with h; injection h with _ h; subst h; exact .refl _
    ·cases h
   ·cases h
  ·cases h
 ·cases h
theorem b0N {H H' : Heap} {t : TypeId} {s x r : Value} (h : a1p P H t s x = some (r, H')) : LK H H' := by
 unfold a1p at h
 simp only [cZ] at h
 obtain ⟨elem, _, size, _, m, _, h⟩ := h
 try dsimp only at h
 split at h
 ·split at h
  ·injection h with h; injection h with _ h; subst h; exact .refl _
  ·cases h
 ·split at h
  ·injection h with h; injection h with _ h; subst h; exact .refl _
  ·simp only [cZ] at h
   obtain ⟨l, _, h⟩ := h
   split at h
   ·split at h
    ·injection h with h; injection h with _ h; subst h; exact .hset _ _ rfl
    ·cases h
   ·cases h
 ·cases h
theorem a7x {H H' : Heap} {t : TypeId} {x r : Value} (h : tA P H t x = some (r, H')) : LK H H' := by
 unfold tA at h
 simp only [cZ] at h
 obtain ⟨elem, _, z, _, h⟩ := h
 split at h
 ·injection h with h; injection h with _ h; subst h; exact .refl _
 ·split at h
  ·injection h with h; injection h with _ h; subst h; exact .refl _
  ·try dsimp only at h
   split at h
   ·split at h
    ·injection h with h; injection h with _ h; subst h; exact .hset _ _ rfl
    ·cases h
   ·cases h
 ·cases h
theorem b4u {H H' : Heap} {t : TypeId} {m k v : Value} (h : a1x P H t m k v = some H') : LK H H' := by
 unfold a1x at h
 simp only [cZ] at h
 obtain ⟨⟨kt, et⟩, _, h⟩ := h
 dsimp only at h
 split at h
 ·split at h
  ·split at h
   ·simp only [cZ] at h
    obtain ⟨r, _, h⟩ := h
    split at h
    ·simp only [cZ] at h
     obtain ⟨e, _, h⟩ := h
     split at h
     ·injection h with h; subst h; exact .hset _ _ rfl
     ·cases h
    ·injection h with h; subst h; exact .hset _ _ rfl
   ·cases h
  ·cases h
 ·cases h
theorem a7r {H H' : Heap} {t : TypeId} {m k r : Value} (h : tP P H t m k = some (r, H')) : LK H H' := by
 unfold tP at h
 simp only [cZ] at h
 obtain ⟨⟨kt, et⟩, _, h⟩ := h
 dsimp only at h
 split at h
 ·split at h
  ·split at h
   ·simp only [cZ] at h
    obtain ⟨r, _, h⟩ := h
    split at h
    ·simp only [cZ] at h
     obtain ⟨e, _, h⟩ := h
     split at h
     ·injection h with h; injection h with _ h; subst h; exact .hset _ _ rfl
     ·cases h
    ·simp only [cZ] at h
     obtain ⟨z, _, h⟩ := h
     split at h
     ·injection h with h; injection h with _ h; subst h; exact .hset _ _ rfl
     ·cases h
   ·cases h
  ·cases h
 ·cases h
theorem a8A {H H' : Heap} {m b v : Value} (h : rV H m b v = some H') : LK H H' := by
 unfold rV at h
 split at h
 ·split at h
  ·split at h
   ·simp only [cZ] at h
    obtain ⟨e, _, h⟩ := h
    injection h with h; subst h; exact .hset _ _ rfl
   ·cases h
  ·cases h
 ·cases h
theorem a3z {H H' : Heap} {t : TypeId} {o : Option Value} {r : Value} (h : pW P H t o = some (r, H')) : LK H H' := by
 unfold pW at h
 simp only [cZ] at h
 obtain ⟨_, _, h⟩ := h
 split at h
 ·injection h with h; injection h with _ h; subst h; exact .cons _ _
 ·injection h with h; injection h with _ h; subst h; exact .cons _ _
 ·cases h
theorem a8E {H H' : Heap} {o : Oper} {l : List Value} {r : Value} (h : kR P o l H = some (r, H')) : H' = H := by
 unfold kR at h
 split at h
 ·split at h
  ·split at h
   ·injection h with h; injection h with _ h; exact h.symm
   ·cases h
  ·cases h
 ·cases h
theorem wH {H H' : Heap} {v r : Value} (h : some (v, H) = some (r, H')) : LK H H' := by injection h with h; injection h with _ h; subst h; exact .refl _
theorem vP {H H' : Heap} {v : Option Value} {r : Value} (h : v.map (fun v => (v, H)) = some (r, H')) : LK H H' := by
 cases v with
 | none => cases h
 | some v => exact wH h
set_option maxHeartbeats 1000000 in
theorem b6y {H H' : Heap} {o : Oper} {l : List Value} {r : Value} (h : opD P o l H = some (r, H')) : LK H H' := by
 obtain ⟨dst, op, type, pos, after, guard⟩ := o
 have pl : ∀ {o : Oper}, kR P o l H = some (r, H') → LK H H' := fun h => by rw [a8E h]; exact .refl _
 cases op with
 | alloc t =>
   simp only [opD, cZ] at h
   obtain ⟨z, _, h⟩ := h
   split at h
   ·exact a7S h
   ·cases h
 | box t x => simp only [opD] at h; exact a3L h
 | store t x y =>
   simp only [opD, dg] at h
   obtain ⟨H1, h, e⟩ := h
   injection e with _ e; subst e
   exact a6H h
 | mapUpdate t m x y =>
   simp only [opD, dg] at h
   obtain ⟨H1, h, e⟩ := h
   injection e with _ e; subst e
   exact b4u h
 | mapEntry t m x => simp only [opD] at h; exact a7r h
 | entryStore t m x y =>
   simp only [opD, dg] at h
   obtain ⟨H1, h, e⟩ := h
   injection e with _ e; subst e
   exact a8A h
 | makeMap t x => simp only [opD] at h; exact a3z h
 | buildSlice t len parts =>
   simp only [opD, cZ] at h
   obtain ⟨elem, _, size, _, z, _, h⟩ := h
   split at h
   ·injection h with h; injection h with _ h; subst h; exact .row _ _ _
   split at h
   ·simp only [dg] at h
    obtain ⟨cs, _, e⟩ := h
    injection e with _ e; subst e
    exact .row _ _ _
   ·cases h
 | makeSlice t n c =>
   simp only [opD, cZ] at h
   obtain ⟨elem, _, size, _, bytes, _, z, _, h⟩ := h
   split at h
   ·split at h
    ·injection h with h; injection h with _ h; subst h; exact .row _ _ _
    ·cases h
   ·cases h
 | call c =>
   simp only [opD] at h
   split at h
   ·split at h
    ·split at h
     all_goals first | exact vP h | cases h
    ·cases h
   ·split at h
    ·exact a5W h
    ·cases h
   ·split at h
    ·exact b0N h
    ·cases h
   ·split at h
    ·exact a7x h
    ·cases h
   ·exact pl h
   ·split at h
    ·split at h
     ·split at h
      ·cases h
      ·exact wH h
     ·cases h
    ·cases h
   ·split at h
    ·exact a5E h
    ·cases h
   ·exact pl h
   ·exact pl h
   ·cases h
 | convert s t x =>
   simp only [opD] at h
   split at h
   ·exact pl h
   ·split at h
    ·split at h
     ·exact vP h
     ·cases h
    ·split at h
     ·simp only [cZ] at h
      obtain ⟨_, _, h⟩ := h
      injection h with h; injection h with _ h; subst h
      rw [b1B]; exact .cons _ _
     ·cases h
    ·split at h
     ·exact wH h
     ·cases h
    ·cases h
 | slice t x lo hi mx =>
   cases mx with
   | some _ => simp only [opD] at h; cases h
   | none =>
     simp only [opD] at h
     split at h
     ·exact pl h
     ·split at h
      ·exact vP h
      ·exact vP h
 | _ =>
   simp only [opD] at h
   repeat' first
    | exact LK.refl _
    | exact wH h
    | exact vP h
    | exact pl h
    | (cases h; done)
    | split at h
    | (simp only [cZ, dg] at h; obtain ⟨_, _, h⟩ := h)
    | (obtain ⟨_, _, h⟩ := h)
    | (injection h with h; injection h with _ h; subst h; exact LK.refl _)
    | (injection h with _ h; subst h; exact LK.refl _)
    | (cases h; exact LK.refl _)
end
end Go.Ds
namespace Go.Ds
variable {P : Program}
structure CallsOk (P : Program) (C : Calls') (H0 : Heap) : Prop where
 fn : ∀ p f args H v H1, LK H0 H → (C.fn p f args H).Is v H1 → p = kU f → (FnS P f args H (fun v' H' => v' = v ∧ H' = H1) ∨ qK P f args H = some (v, H1)) ∧ LK H H1
 rd : ∀ L args H v H1, LK H0 H → (C.rd L args H).Is v H1 → yM P L args H v H1 ∧ LK H H1
noncomputable def iW (x : Operand) : LArg := match x with
 | .tmp t => .t (kU t)
 | .const v => .c v
 | .global g => .c (.pointer (some ⟨g, 0, none⟩))
 | .func k => .c (.func (.func k) #[] #[])
theorem lD {α : Type} (x : Operand) (K : LArg → α) : lT x K = K (iW x) := by
 cases x with
 | tmp t => exact lO _ _
 | _ => rfl
theorem jW {f : Fr} {l : List Value} (h : FAg f l) (x : Operand) : mO f (iW x) = ev l x := by
 cases x with
 | tmp t => exact h t
 | _ => rfl
theorem a4f {α : Type} (l : List Operand) (K : List LArg → α) : a5z l K = K (l.map iW) := by
 induction l generalizing K with
 | nil => rfl
 | cons x l ih =>
   show lT x (fun x => a5z l fun l => K (x :: l)) = _
   rw [lD, ih]; rfl
theorem a6X {α : Type} {f : Fr} {l : List Value} (h : FAg f l) (xs : List Operand) (K : List Value → α) : a4N f (xs.map iW) K = K (xs.map (ev l)) := by
 induction xs generalizing K with
 | nil => rfl
 | cons x xs ih =>
   show oJ (mO f (iW x)) (fun v => a4N f (xs.map iW) fun l => K (v :: l)) = _
   rw [mW, ih, jW h]; rfl
theorem c1M {f : Fr} {l : List Value} (h : FAg f l) : evF f = ev l := by
 funext x
 cases x with
 | tmp t => exact h t
 | _ => rfl
def wX (P : Program) (o : Oper) (lo : LOp) : Prop := ∀ C H0 f l H v H1, CallsOk P C H0 → LK H0 H → FAg f l → (opF P C lo f H).Is v H1 → StepR P o l H v H1 ∧ LK H H1
def LowPl (P : Program) (o : Oper) (lo : LOp) : Prop := ∀ C f l H v H1, FAg f l → (opF P C lo f H).Is v H1 → opD P o l H = some (v, H1)
theorem LowPl.low {o : Oper} {lo : LOp} (hok : o.op.operands.toList.all iQ = true) (h : LowPl P o lo) : wX P o lo :=
 fun C _ f l H v H1 _ _ hf hr => by have := h C f l H v H1 hf hr; exact ⟨.op hok this, b6y this⟩
theorem b8q (o : Oper) : wX P o .bad := fun _ _ _ _ _ _ _ _ _ _ h => absurd h Rs.ar
theorem b8E (o : Oper) : LowPl P o (.gen o) := fun C f l H v H1 hf hr => by
 have hr : (match c2N P o (evF f) H with | some (v, H1) => Rs.th v H1 | none => .no).Is v H1 := hr
 rw [c1M hf] at hr
 have e : c2N P o (ev l) H = opD P o l H := rfl
 rw [e] at hr
 split at hr
 ·rename_i v2 H2 h2
  obtain ⟨rfl, rfl⟩ := Rs.aT hr
  exact h2
 ·exact absurd hr Rs.ar
section
variable {dst : Option Tmp} {type : TypeId} {pos : String} {after : Array Edge} {guard : Option (Nat × Bool)}
theorem c2J (x : Operand) : LowPl P ⟨dst, .move x, type, pos, after, guard⟩ (.mv (iW x)) := fun C f l H v H1 hf hr => by
 have hr : (oJ (mO f (iW x)) fun v => Rs.ok v H).Is v H1 := hr
 rw [mW, jW hf] at hr
 obtain ⟨rfl, rfl⟩ := Rs.aM hr
 rfl
theorem c3j (x : Operand) : LowPl P ⟨dst, .assign x, type, pos, after, guard⟩ (.mv (iW x)) := fun C f l H v H1 hf hr => by
 have hr : (oJ (mO f (iW x)) fun v => Rs.ok v H).Is v H1 := hr
 rw [mW, jW hf] at hr
 obtain ⟨rfl, rfl⟩ := Rs.aM hr
 rfl
theorem b7F (c a b : Operand) : LowPl P ⟨dst, .pick c a b, type, pos, after, guard⟩ (.pick (iW c) (iW a) (iW b)) := fun C f l H v H1 hf hr => by
 have hr : (b5V (iW c) (iW a) (iW b) f H).Is v H1 := hr
 unfold b5V at hr
 rw [jW hf] at hr
 split at hr
 ·rename_i t ht
  rw [mW] at hr
  simp only [opD, ht]
  cases t
  ·have hr : (Rs.ok (mO f (iW b)) H).Is v H1 := hr
   rw [jW hf] at hr
   obtain ⟨rfl, rfl⟩ := Rs.aM hr; rfl
  ·have hr : (Rs.ok (mO f (iW a)) H).Is v H1 := hr
   rw [jW hf] at hr
   obtain ⟨rfl, rfl⟩ := Rs.aM hr; rfl
 ·exact absurd hr Rs.ar
theorem b8M (a b : Int) : c6c a b = a * b := by cases a <;> cases b <;> rfl
theorem a5h (a b : Int) : c5m a b = a.tdiv b := by cases a <;> cases b <;> rfl
theorem a5T (a b : Int) : c4m a b = a.tmod b := by cases a <;> cases b <;> rfl
theorem b8O {op : BinOp} {g : IntKind → Int → Int → Option Value} (h : b9i op = some g) (k : IntKind) (a b : Int) : mN op k a b = g k a b := by
 cases op <;> simp only [b9i] at h <;> first | (cases h; done) | (injection h with h; subst h)
 all_goals first
  | rfl
  | (simp only [mN, c6a, b8M]; done)
  | (simp only [mN, b8Z, a5h]; done)
  | (simp only [mN, b8U, a5T]; done)
  | (simp only [mN, b8Z, a5h]; rfl)
  | (simp only [mN, b8U, a5T]; rfl)
  | (simp only [mN, b8Z, a5h]; cases eqI b 0 <;> rfl)
  | (simp only [mN, b8U, a5T]; cases eqI b 0 <;> rfl)
theorem c4y {o : Option Value} {H H1 : Heap} {v : Value} (h : (oV o H).Is v H1) : o = some v ∧ H1 = H := by
 cases o with
 | none => exact absurd h Rs.ar
 | some w => obtain ⟨rfl, rfl⟩ := Rs.aT h; exact ⟨rfl, rfl⟩
theorem b6H {o : Option Value} {H H1 : Heap} {v : Value} (h : (okV o H).Is v H1) : o = some v ∧ H1 = H := by
 cases o with
 | none => exact absurd h Rs.ar
 | some w =>
   have h : (oJ w fun v => Rs.ok v H).Is v H1 := h
   rw [mW] at h
   obtain ⟨rfl, rfl⟩ := Rs.aM h; exact ⟨rfl, rfl⟩
theorem c0l {op : BinOp} {g : IntKind → Int → Int → Option Value} (hg : b9i op = some g) (t yt : TypeId) (x y : Operand) : LowPl P ⟨dst, .binOp op t x y yt, type, pos, after, guard⟩ (.bin g (iW x) (iW y)) := fun C f l H v H1 hf hr => by
 have hr : (c3h g (iW x) (iW y) f H).Is v H1 := hr
 unfold c3h at hr
 rw [jW hf] at hr
 split at hr
 ·rename_i k a hx
  unfold c0B at hr
  rw [jW hf] at hr
  split at hr
  ·rename_i k' b hy
   obtain ⟨hk, hq⟩ := lI hr
   obtain rfl := b7T hk
   obtain ⟨hv, rfl⟩ := c4y hq
   rw [← b8O hg] at hv
   have : opD P ⟨dst, .binOp op t x y yt, type, pos, after, guard ⟩ l H1 = if k = k then (match mN op k a b with | some v => some (v, H1) | none => kR P ⟨dst, .binOp op t x y yt, type, pos, after, guard ⟩ l H1) else kR P ⟨dst, .binOp op t x y yt, type, pos, after, guard ⟩ l H1 := by
    simp only [opD, hx, hy]
    cases op <;> rfl
   rw [this, if_pos rfl, hv]
  ·exact absurd hr Rs.ar
 ·exact absurd hr Rs.ar
theorem b8C {b : Option Blk} {i e : Nat} {H H1 : Heap} {v : Value} (h : (b9Y b i e H).Is v H1) : H1 = H ∧ ∃ cs ty rw lo ver, b = some (.cells cs ty rw lo ver) ∧ lo ≤ e ∧ e ≤ cs.length ∧ i + 1 ≤ e ∧ cs[i]? = some v := by
 unfold b9Y at h
 split at h
 ·rename_i cs ty rw lo ver
  obtain ⟨h1, h⟩ := lI h
  obtain ⟨h2, h⟩ := lI h
  obtain ⟨h3, h⟩ := lI h
  have h : (okV (a1u cs i) H).Is v H1 := h
  obtain ⟨h4, h5⟩ := b6H h
  rw [yI] at h2
  rw [yO] at h4
  exact ⟨h5, cs, ty, rw, lo, ver, rfl, eH h1, by simpa using h2, eH h3, h4⟩
 ·exact absurd h Rs.ar
theorem b9c {b : Option Blk} {n i e : Nat} {H H1 : Heap} {v : Value} (h : (b9S b n i e H).Is v H1) : H1 = H ∧ ∃ cs ty rw lo ver, b = some (.cells cs ty rw lo ver) ∧ lo ≤ e ∧ e ≤ cs.length ∧ i + n ≤ e ∧ v = .agg ((cs.drop i).take n).toArray := by
 unfold b9S at h
 split at h
 ·rename_i cs ty rw lo ver
  obtain ⟨h1, h⟩ := lI h
  obtain ⟨h2, h⟩ := lI h
  obtain ⟨h3, h⟩ := lI h
  obtain ⟨h4, h⟩ := a8p h
  obtain ⟨rfl, rfl⟩ := Rs.aM h
  rw [yI] at h2
  exact ⟨rfl, cs, ty, rw, lo, ver, rfl, eH h1, by simpa using h2, eH h3, by rw [a7d]⟩
 ·exact absurd h Rs.ar
theorem b2d {X : LArg} {f : Fr} {H H1 : Heap} {v w : Value} {t : TypeId} (ht : jT P t = some false) (hw : mO f X = w) (h : (b4m X f H).Is v H1) : H1 = H ∧ lS P H t w = some v := by
 unfold b4m at h
 rw [hw] at h
 split at h
 ·rename_i A i e
  obtain ⟨h1, cs, ty, rw', lo, ver, h2, h3, h4, h5, h6⟩ := b8C h
  refine ⟨h1, ?_⟩
  simp only [lS, ht, jE, h2]
  rw [if_pos (by simp; omega)]
  simp [h6]
 ·rename_i A i
  unfold c1K at h
  split at h
  ·rename_i cs ty lo hg
   obtain ⟨h1, h⟩ := lI h
   rw [yI] at h1
   have h1 : lo ≤ cs.length := by simpa using h1
   cases hn : a1u cs i with
   | none => rw [hn] at h; exact absurd h Rs.ar
   | some c =>
     rw [hn] at h
     have h : (oJ c fun v => Rs.ok v H).Is v H1 := h
     rw [mW] at h
     obtain ⟨rfl, rfl⟩ := Rs.aM h
     rw [yO] at hn
     have hi := (du.1 hn).1
     refine ⟨rfl, ?_⟩
     simp only [lS, ht, jE, hg]
     rw [if_pos (by simp; omega)]
     simp [hn]
  ·exact absurd h Rs.ar
 ·exact absurd h Rs.ar
theorem b1T {X : LArg} {f : Fr} {H H1 : Heap} {v w : Value} {t : TypeId} {n : Nat} (ht : jT P t = some true) (hn : iE P t = some n) (hw : mO f X = w) (h : (b3K n X f H).Is v H1) : H1 = H ∧ lS P H t w = some v := by
 unfold b3K at h
 rw [hw] at h
 split at h
 ·rename_i A i e
  obtain ⟨h1, cs, ty, rw', lo, ver, h2, h3, h4, h5, h6⟩ := b9c h
  refine ⟨h1, ?_⟩
  simp only [lS, ht, hn, cX, jE, h2]
  rw [if_pos (by simp; omega), h6]
  rfl
 ·exact absurd h Rs.ar
theorem b8j {t : TypeId} (ht : jT P t = some false) (x : Operand) : LowPl P ⟨dst, .load t x, type, pos, after, guard⟩ (.ld1 (iW x)) := fun C f l H v H1 hf hr => by
 obtain ⟨rfl, h⟩ := b2d (P := P) ht (jW hf x) hr
 simp only [opD, h, dM]
theorem b9s {t : TypeId} {n : Nat} (ht : jT P t = some true) (hn : iE P t = some n) (x : Operand) : LowPl P ⟨dst, .load t x, type, pos, after, guard⟩ (.ldn n (iW x)) := fun C f l H v H1 hf hr => by
 obtain ⟨rfl, h⟩ := b1T (P := P) ht hn (jW hf x) hr
 simp only [opD, h, dM]
theorem c1u {t : TypeId} {n : Nat} (hn : iE P t = some n) (x y : Operand) : LowPl P ⟨dst, .store t x y, type, pos, after, guard⟩ (.st n (iW x) (iW y)) := fun C f l H v H1 hf hr => by
 have hr : (hSt n (iW x) (iW y) f H).Is v H1 := hr
 unfold hSt at hr
 rw [jW hf, jW hf] at hr
 split at hr
 ·rename_i A i e hx
  unfold stB at hr
  split at hr
  ·rename_i cs ty lo ver hg
   obtain ⟨h1, hr⟩ := lI hr
   obtain ⟨h2, hr⟩ := lI hr
   obtain ⟨h3, hr⟩ := lI hr
   obtain ⟨h4, hr⟩ := lI hr
   obtain ⟨h5, hr⟩ := lI hr
   obtain ⟨rfl, rfl⟩ := Rs.aT hr
   rw [zO] at h1 h3
   have h1 : n = (ev l y).cells.toList.length := by simpa only [decide_eq_true_eq] using h1
   have h3 : e = cs.length := by simpa only [decide_eq_true_eq] using h3
   have h4 : i + n ≤ e := eH h4
   have h5 : lo ≤ e := eH h5
   simp only [opD, rG, hx, hg]
   rw [if_pos ⟨by rw [hn, h1], h2, h3, by omega, h5⟩]
   simp only [dM]
   rw [h3]
  ·exact absurd hr Rs.ar
 ·exact absurd hr Rs.ar
theorem c2t {s : TypeId} {k n : Nat} {fd : Field} (hf' : oH P s k = some fd) (hn : iE P fd.type = some n) (hn0 : n ≠ 0) (x : Operand) : LowPl P ⟨dst, .fieldAddr s x k, type, pos, after, guard⟩ (.fa fd.offset (iW x)) := fun C f l H v H1 hf hr => by
 have hr : (hFa fd.offset (iW x) f H).Is v H1 := hr
 unfold hFa at hr
 rw [jW hf] at hr
 split at hr
 ·rename_i A i e hx
  rw [kB] at hr
  obtain ⟨rfl, rfl⟩ := Rs.aM hr
  simp only [opD, hx, hf', cX, hn]
  rw [if_neg (by simpa using hn0)]; rfl
 ·exact absurd hr Rs.ar
theorem b6X {A i e size n : Nat} {H H1 : Heap} {j v : Value} (h : (ixP A i e size n H j).Is v H1) : H1 = H ∧ ∃ k m, j = .int k (.ofNat m) ∧ m < n ∧ v = .pointer (some ⟨A, i + m * size, some e⟩) := by
 unfold ixP at h
 split at h
 ·rename_i k m
  obtain ⟨h1, h⟩ := lI h
  rw [kB] at h
  obtain ⟨rfl, rfl⟩ := Rs.aM h
  rw [blt_eq] at h1
  exact ⟨rfl, k, m, rfl, by simpa using h1, rfl⟩
 ·exact absurd h Rs.ar
theorem c0y {t elem : TypeId} {size : Nat} (ht : P.underlying t = some (.slice elem)) (hs : iE P elem = some size) (x i : Operand) : LowPl P ⟨dst, .indexAddr t x i, type, pos, after, guard⟩ (.ixs size (iW x) (iW i)) := fun C f l H v H1 hf hr => by
 have hr : (c2q size (iW x) (iW i) f H).Is v H1 := hr
 unfold c2q at hr
 rw [jW hf, jW hf] at hr
 split at hr
 ·rename_i A a e n c hx
  obtain ⟨rfl, k, m, hj, hm, rfl⟩ := b6X hr
  simp only [opD, ht, hx, hj, hs, cX]
  rw [if_pos (by simp; omega)]
  rfl
 ·exact absurd hr Rs.ar
theorem c5Z (a b : Nat) : Nat.beq a b = (a == b) := by
 cases h : Nat.beq a b with
 | true => rw [dU h]; simp
 | false => have := Nat.ne_of_beq_eq_false h; simp [this]
theorem c1Z {A i size n : Nat} {H H1 : Heap} {j v : Value} (h : (ixG A i size n H j).Is v H1) : H1 = H ∧ ∃ k m, j = .int k (.ofNat m) ∧ m < n ∧ v = .pointer (some ⟨A, i + m * size, none⟩) := by
 unfold ixG at h
 split at h
 ·rename_i k m
  obtain ⟨h1, h⟩ := lI h
  rw [kB] at h
  obtain ⟨rfl, rfl⟩ := Rs.aM h
  exact ⟨rfl, k, m, rfl, by simpa [ib] using h1, rfl⟩
 ·exact absurd h Rs.ar
theorem c0g {t elem : TypeId} {n size : Nat} (ht : P.underlying t = some (.array n elem)) (hs : iE P elem = some size) (x i : Operand) : LowPl P ⟨dst, .indexAddr t x i, type, pos, after, guard⟩ (.ixa n size (iW x) (iW i)) := fun C f l H v H1 hf hr => by
 have hr : (c2r n size (iW x) (iW i) f H).Is v H1 := hr
 unfold c2r at hr
 rw [jW hf, jW hf] at hr
 split at hr
 ·rename_i A a e hx
  obtain ⟨rfl, k, m, hj, hm, rfl⟩ := b6X hr
  simp only [opD, ht, hx, hj, hs, cX]
  rw [if_pos (by simp; omega)]
  rfl
 ·rename_i A a hx
  obtain ⟨rfl, k, m, hj, hm, rfl⟩ := c1Z hr
  simp only [opD, ht, hx, hj, hs, cX]
  rw [if_pos (by simp; omega)]
  rfl
 ·exact absurd hr Rs.ar
theorem b7Y (i : Nat) (x : Operand) : LowPl P ⟨dst, .extract x i, type, pos, after, guard⟩ (.ext i (iW x)) := fun C f l H v H1 hf hr => by
 have hr : (c2z i (iW x) f H).Is v H1 := hr
 unfold c2z at hr
 rw [jW hf] at hr
 split at hr
 ·rename_i vs hx
  obtain ⟨h1, rfl⟩ := b6H hr
  rw [yO] at h1
  simp only [opD, hx]
  simp [h1]
 ·exact absurd hr Rs.ar
theorem b9N {c : Call} {elem : TypeId} (hc : c.callee = .builtin .len) (h1 : c.args.size = 1) (h2 : c.argTypes.size = 1) (ht : P.underlying (c.argTypes.getD 0 0) = some (.slice elem)) : LowPl P ⟨dst, .call c, type, pos, after, guard⟩ (.len (iW (c.args.getD 0 (.tmp 0)))) := fun C f l H v H1 hf hr => by
 have hr : (c2c (iW (c.args.getD 0 (.tmp 0))) f H).Is v H1 := hr
 unfold c2c at hr
 rw [jW hf] at hr
 split at hr
 ·rename_i a n k hx
  obtain ⟨rfl, rfl⟩ := Rs.aT hr
  simp only [opD, hc, h1, h2, ht, hx, xV]; rfl
 ·exact absurd hr Rs.ar
theorem b6w {c : Call} (hc : c.callee = .builtin .len) (h1 : c.args.size = 1) (h2 : c.argTypes.size = 1) (ht : P.underlying (c.argTypes.getD 0 0) = some .string) : LowPl P ⟨dst, .call c, type, pos, after, guard⟩ (.slen (iW (c.args.getD 0 (.tmp 0)))) := fun C f l H v H1 hf hr => by
 have hr : (b5w (iW (c.args.getD 0 (.tmp 0))) f H).Is v H1 := hr
 unfold b5w at hr
 rw [jW hf] at hr
 split at hr
 ·rename_i s hx
  obtain ⟨rfl, rfl⟩ := Rs.aT hr
  simp only [opD, hc, h1, h2, ht, hx, xV]; rfl
 ·exact absurd hr Rs.ar
theorem b8W {c : Call} {elem : TypeId} {size bytes : Nat} {z : Value} (hc : c.callee = .builtin .append) (h1 : c.args.size = 2) (h2 : c.argTypes.size = 2) (hi : ((P.underlying (c.argTypes.getD 1 0)).map qA) = some true)
 (he : iJ P (c.argTypes.getD 0 0) = some elem) (hs : iE P elem = some size) (hb : mP P elem = some bytes) (hz : jA P elem = some z) (hzs : z.cells.size = size) (hs0 : size ≠ 0) :
 LowPl P ⟨dst, .call c, type, pos, after, guard⟩ (.app elem size bytes (iW (c.args.getD 0 (.tmp 0))) (iW (c.args.getD 1 (.tmp 0)))) := fun C f l H v H1 hf hr => by
 have hr : (c2W P elem size bytes (iW (c.args.getD 0 (.tmp 0))) (iW (c.args.getD 1 (.tmp 0))) f H).Is v H1 := hr
 unfold c2W at hr
 rw [jW hf, jW hf] at hr
 have hD : opD P ⟨dst, .call c, type, pos, after, guard⟩ l H = nP P H (c.argTypes.getD 0 0) (ev l (c.args.getD 0 (.tmp 0))) (ev l (c.args.getD 1 (.tmp 0))) := by
  simp only [opD, hc, h1, h2, hi]; rfl
 rw [hD]
 unfold nP
 rw [he, cX, hs, cX, hb, cX, hz, cX]
 split at hr
 ·rename_i n m hsrc
  rw [hsrc, cX]
  unfold c5a at hr
  split at hr
  ·rename_i k cc hx
   obtain ⟨g1, hq1⟩ := lI hr
   obtain ⟨g2, hq2⟩ := lI hq1
   obtain ⟨g3, hq⟩ := lI hq2
   clear hr hq1 hq2
   obtain rfl : k = 0 := dU g1
   obtain rfl : cc = 0 := dU g2
   have g3 : n * (bytes + 1) ≤ nY := eH g3
   simp only [hx]
   rw [if_pos (by simp [hs0, hzs, g3])]
   rw [kT] at hq
   by_cases hn : n = 0
   ·subst hn
    rw [if_pos (by rfl)] at hq
    obtain ⟨rfl, rfl⟩ := Rs.aM hq
    simp
   ·rw [if_neg (fun e => hn (dU e))] at hq
    obtain ⟨rfl, rfl⟩ := Rs.aT hq
    simp [hn]
  ·rename_i A i e k cc hx
   unfold c4M at hr
   split at hr
   ·rename_i cs ty lo ver hg
    obtain ⟨g2, hr⟩ := lI hr
    obtain ⟨g4, hr⟩ := lI hr
    obtain ⟨g5, hr⟩ := lI hr
    have g2 : (ty == elem || iE P ty == some size) = true := by
     rw [c5Z] at g2
     cases hh : (ty == elem) with
     | true => rfl
     | false => rw [hh] at g2; exact g2
    rw [zO] at g4
    have g4 : e = cs.length := by simpa only [decide_eq_true_eq] using g4
    have g5 : lo ≤ e := eH g5
    simp only [hx, hg]
    rw [kT] at hr
    by_cases g3 : i + k * size = e
    ·rw [if_pos (by simpa using g3)] at hr
     obtain ⟨g1, hr⟩ := lI hr
     obtain ⟨rfl, rfl⟩ := Rs.aT hr
     have g1 : (k + n) * (bytes + 1) ≤ nY := eH g1
     have et : (Bool.rec (motive := fun _ => Nat) 2 ver (Nat.beq ty elem)) = (if (ty == elem) = true then ver else 2) := by
      rw [c5Z]
      cases hh : (ty == elem) with
      | true => rfl
      | false => rfl
     rw [et, if_pos (by simp only [g2, fy, cY, bne_iff_ne, beq_iff_eq, decide_eq_true_eq]; exact ⟨⟨⟨⟨⟨hs0, g1⟩, by simpa using hzs⟩, g3⟩, g4⟩, g5⟩)]
    ·rw [if_neg (by simpa using g3)] at hr
     rw [kT] at hr
     by_cases hn : n = 0
     ·rw [if_pos (by simpa using hn)] at hr
      exact absurd hr Rs.ar
     ·rw [if_neg (by simpa using hn)] at hr
      obtain ⟨g6, hr⟩ := lI hr
      obtain ⟨rfl, rfl⟩ := Rs.aT hr
      have g6 : i + (k + n) * size ≤ e := eH g6
      rw [if_neg (by simp [g3]), if_pos (by simp only [g2, fy, cY, bne_iff_ne, beq_iff_eq, decide_eq_true_eq]; exact ⟨⟨⟨⟨⟨hs0, hn⟩, by simpa using hzs⟩, g6⟩, g4⟩, g5⟩), g4]
   ·exact absurd hr Rs.ar
  ·exact absurd hr Rs.ar
 ·exact absurd hr Rs.ar
theorem b3i {c : Call} {k : FuncId} (hc : c.callee = .value (.func k)) (hok : (Op.call c).operands.toList.all iQ = true) : wX P ⟨dst, .call c, type, pos, after, guard⟩ (.callF k (kU k) (c.args.toList.map iW)) := fun C H0 f l H v H1 hC hk hf hr => by
 have hr : (a4N f (c.args.toList.map iW) fun l => C.fn (kU k) k l H).Is v H1 := hr
 rw [a6X hf] at hr
 obtain ⟨h1 | hx, h2⟩ := hC.fn _ _ _ _ _ _ hk hr rfl
 case inr => exact ⟨.ext hok c (.func k) k #[] #[] rfl hc rfl (by simpa using hx), h2⟩
 obtain ⟨he, v', H', hcall, rfl, rfl⟩ := h1.fn
 exact ⟨.call hok c (.func k) k #[] #[] rfl hc rfl he (by simpa using hcall), h2⟩
theorem b3l {c : Call} {g : Operand} (hc : c.callee = .value g) (hok : (Op.call c).operands.toList.all iQ = true) : wX P ⟨dst, .call c, type, pos, after, guard⟩ (.callV (iW g) (c.args.toList.map iW)) := fun C H0 f l H v H1 hC hk hf hr => by
 have hr : (a4N f (c.args.toList.map iW) fun l => b0U C l H (mO f (iW g))).Is v H1 := hr
 rw [a6X hf, jW hf] at hr
 unfold b0U at hr
 split at hr
 ·rename_i k a b hg
  rw [kB, lO] at hr
  obtain ⟨h1 | hx, h2⟩ := hC.fn _ _ _ _ _ _ hk hr rfl
  case inr => exact ⟨.ext hok c g k ⟨a⟩ ⟨b⟩ rfl hc hg (by simpa [yJ] using hx), h2⟩
  obtain ⟨he, v', H', hcall, rfl, rfl⟩ := h1.fn
  exact ⟨.call hok c g k ⟨a⟩ ⟨b⟩ rfl hc hg he (by simpa [yJ] using hcall), h2⟩
 ·rename_i L a b hg
  obtain ⟨h1, h2⟩ := hC.rd _ _ _ _ _ hk hr
  exact ⟨.round hok c g L _ _ rfl hc hg h1, h2⟩
 ·exact absurd hr Rs.ar
end
set_option maxHeartbeats 1000000 in
theorem b2i {α : Type} (o : Oper) (K : LOp → α) : ∃ lo, wX P o lo ∧ zK P o K = K lo := by
 unfold zK
 rw [kT]
 by_cases hok : o.op.operands.toList.all iQ = true
 case neg => rw [if_neg hok]; exact ⟨_, b8q o, rfl⟩
 rw [if_pos hok]
 have gen : ∃ lo, wX P o lo ∧ K (.gen o) = K lo := ⟨_, (b8E o).low hok, rfl⟩
 obtain ⟨dst, op, type, pos, after, guard⟩ := o
 unfold c3R
 cases op with
 | move x => simp only [lD]; exact ⟨_, (c2J x).low hok, rfl⟩
 | assign x => simp only [lD]; exact ⟨_, (c3j x).low hok, rfl⟩
 | pick c a b => simp only [lD]; exact ⟨_, (b7F c a b).low hok, rfl⟩
 | binOp op t x y yt =>
   simp only [lD, kT]
   split
   ·split
    ·rename_i g hg; exact ⟨_, (c0l hg t yt x y).low hok, rfl⟩
    ·exact gen
   ·exact gen
 | load t x =>
   simp only [lD]
   split
   ·rename_i ht
    cases hn : iE P t with
    | none => exact gen
    | some n => rw [pF]; exact ⟨_, (b9s ht hn x).low hok, rfl⟩
   ·rename_i ht; exact ⟨_, (b8j ht x).low hok, rfl⟩
   ·exact gen
 | store t x y =>
   simp only [lD]
   cases hn : iE P t with
   | none => exact gen
   | some n => rw [pF]; exact ⟨_, (c1u hn x y).low hok, rfl⟩
 | fieldAddr s x k =>
   simp only [lD]
   split
   ·rename_i fd hfd
    split
    ·exact gen
    ·rename_i n hn0 hn
     rw [kB]
     exact ⟨_, (c2t hfd hn (fun e => hn0 e) x).low hok, rfl⟩
    ·exact gen
   ·exact gen
 | indexAddr t x i =>
   simp only [lD]
   split
   ·rename_i elem ht
    cases hs : iE P elem with
    | none => exact gen
    | some n => rw [pF]; exact ⟨_, (c0y ht hs x i).low hok, rfl⟩
   ·rename_i n elem ht
    cases hs : iE P elem with
    | none => exact gen
    | some m => rw [pF]; exact ⟨_, (c0g ht hs x i).low hok, rfl⟩
   ·exact gen
 | extract t i => simp only [lD]; rw [kB]; exact ⟨_, (b7Y i t).low hok, rfl⟩
 | call c =>
   simp only
   unfold b4G
   split
   ·rename_i k hc
    rw [lO, a4f]
    exact ⟨_, b3i hc hok, rfl⟩
   ·rename_i g _ hc
    rw [lD, a4f]
    exact ⟨_, b3l hc hok, rfl⟩
   ·rename_i hc
    rw [kT]
    split
    ·rename_i h1
     simp only [cY, beq_iff_eq] at h1
     split
     ·rename_i elem ht; rw [lD]; exact ⟨_, (b9N hc h1.1 h1.2 ht).low hok, rfl⟩
     ·rename_i ht; rw [lD]; exact ⟨_, (b6w hc h1.1 h1.2 ht).low hok, rfl⟩
     ·exact gen
    ·exact gen
   ·rename_i hc
    rw [kT]
    split
    ·rename_i h1
     simp only [cY, beq_iff_eq] at h1
     split
     ·rename_i elem he
      cases hs : iE P elem with
      | none => exact gen
      | some size =>
        rw [pF]
        cases hb : mP P elem with
        | none => exact gen
        | some bytes =>
          rw [pF]
          split
          ·rename_i z hz
           rw [kT]
           split
           ·rename_i h2
            simp only [cY, beq_iff_eq, bne_iff_ne] at h2
            rw [kB, lD, lD]
            exact ⟨_, (b8W hc h1.1.1 h1.1.2 h1.2 he hs hb hz h2.1 h2.2).low hok, rfl⟩
           ·exact gen
          ·exact gen
     ·exact gen
    ·exact gen
   ·exact gen
 | _ => exact gen
def DOk (k : Nat) (dst : Option Tmp) (d : Option Pth) : Prop := (dst = none ∧ d = none) ∨ ∃ t, dst = some t ∧ t < k ∧ d = some (kU t)
inductive LowOps (P : Program) (k : Nat) (ops : Array Oper) : List Oper → LOps → Prop
 | nil : LowOps P k ops [] .nil
 | cons {o : Oper} {os : List Oper} {d : Option Pth} {lo : LOp} {r : LOps} (hd : DOk k o.dst d) (ho : wX P o lo) (hg : o.guard = none) (hr : LowOps P k ops os r) : LowOps P k ops (o :: os) (.cons d lo r)
 | gcons {o : Oper} {os : List Oper} {d : Option Pth} {lo : LOp} {r : LOps} {j t : Nat} {w : Bool} (hd : DOk k o.dst d) (ho : wX P o lo) (hg : o.guard = some (j, w)) (ht : (ops[j]?).bind (·.dst) = some t) (htk : t < k) (hr : LowOps P k ops os r) : LowOps P k ops (o :: os) (.gcons (kU t) w d lo r)
def GOk (ops : Array Oper) (o : Oper) (g : Option (Pth × Bool)) : Prop := (o.guard = none ∧ g = none) ∨ ∃ j w t, o.guard = some (j, w) ∧ (ops[j]?).bind (·.dst) = some t ∧ g = some (kU t, w)
theorem GOk.runs {ops : Array Oper} {o : Oper} {g : Option (Pth × Bool)} (h : GOk ops o g) {f : Fr} {l : List Value} (hf : FAg f l) (hw : Region.wanted o (iV ops l) = true) : b5y f g = true := by
 rcases h with ⟨_, rfl⟩ | ⟨j, w, t, hg, ht, rfl⟩
 ·rfl
 ·simp only [Region.wanted, hg, iV, ht] at hw
  show isB (oC (kU t) f) w = true
  rw [hf t, oM, db]
  cases hl : l[t]? with
  | none => rw [hl] at hw; simp at hw
  | some v =>
    rw [hl] at hw
    cases v <;> simp at hw
    subst hw
    rename_i b
    cases b <;> rfl
inductive LowTab (P : Program) (ops : Array Oper) : List (Nat × Nat) → List (Nat × Option Nat × Option (Pth × Bool) × LOp) → Prop
 | nil : LowTab P ops [] []
 | cons {i m : Nat} {o : Oper} {lo : LOp} {tab : List (Nat × Nat)} {t : List (Nat × Option Nat × Option (Pth × Bool) × LOp)} {g : Option (Pth × Bool)} (ho : ops[i]? = some o) (hgd : GOk ops o g) (hl : wX P o lo) (hr : LowTab P ops tab t) :
    LowTab P ops ((i, m) :: tab) ((ops.size - 1 - i, if m < ops.size then some (ops.size - 1 - m) else none, g, lo) :: t)
inductive Low (P : Program) (k : Nat) : Code → LCode → Prop
 | bad (c : Code) : Low P k c .bad
 | skip : Low P k .skip .skip
 | label (t : Nat) : Low P k (.label t) .skip
 | reg {id : Nat} {ops : Array Oper} {d : Bool} {lo : LOps} (h : LowOps P k ops ops.toList lo) (hd : d = true → nE P ops = some []) : Low P k (.region id ops d) (.reg lo)
 | drw {id : Nat} {ops : Array Oper} {lo : LOps} {tab : List (Nat × Nat)} {t : List (Nat × Option Nat × Option (Pth × Bool) × LOp)} (h : LowOps P k ops ops.toList lo) (ht : nE P ops = some tab) (hl : LowTab P ops tab t) : Low P k (.region id ops true) (.drw lo t)
 | seq {a b : Code} {A B : LCode} (ha : Low P k a A) (hb : Low P k b B) : Low P k (.seq a b) (.seq A B)
 | cond {c : Operand} {x y : Code} {X Y : LCode} (hc : iQ c = true) (hx : Low P k x X) (hy : Low P k y Y) : Low P k (.cond c x y) (.cond (iW c) X Y)
 | block {id : Nat} {b : Code} {B : LCode} (hb : Low P k b B) : Low P k (.block id b) (.block id B)
 | loop {b : Code} {B : LCode} (hb : Low P k b B) : Low P k (.loop b) (.loop B)
 | exit (id : Nat) : Low P k (.exit id) (.exit id)
 | ret : Low P k .ret .ret
 | range {g : Operand} {ps : Array Tmp} {assign body : Code} {A B : LCode} (hg : iQ g = true) (hps : ∀ t ∈ ps.toList, t < k) (ha : Low P k assign A) (hb : Low P k body B) :
    Low P k (.rangeFunc g ps assign body) (.range (iW g) ((List.range k).map kU) (ps.toList.map kU) ps assign body A B)
section
variable {α : Type}
theorem b6i (k : Nat) (dst : Option Tmp) (no : α) (K : Option Pth → α) : (∃ d, DOk k dst d ∧ a8n k dst no K = K d) ∨ a8n k dst no K = no := by
 cases dst with
 | none => exact .inl ⟨none, .inl ⟨rfl, rfl⟩, rfl⟩
 | some t =>
   simp only [a8n, kT]
   split
   ·rename_i h
    rw [lO]
    rw [blt_eq] at h
    exact .inl ⟨_, .inr ⟨t, rfl, by simpa using h, rfl⟩, rfl⟩
   ·exact .inr rfl
theorem a2N (k : Nat) (ops : Array Oper) (l : List Oper) (K : LOps → α) (no : α) : (∃ L, LowOps P k ops l L ∧ uY P k ops l K no = K L) ∨ uY P k ops l K no = no := by
 induction l generalizing K with
 | nil => exact .inl ⟨_, .nil, rfl⟩
 | cons o l ih =>
   let K2 : Option Pth → LOp → α := fun d o' => match o.guard with
    | none => uY P k ops l (fun r => K (.cons d o' r)) no
    | some (j, w) => match (ops[j]?).bind (·.dst) with
      | some t => nZ (Nat.blt t k) no (lP (kU t) fun p => a0B w fun w => uY P k ops l (fun r => K (.gcons p w d o' r)) no)
      | none => no
   have e : uY P k ops (o :: l) K no = a8n k o.dst no fun d => zK P o fun o' => K2 d o' := rfl
   rw [e]
   rcases b6i k o.dst no (fun d => zK P o fun o' => K2 d o') with ⟨d, hd, h1⟩ | h1
   ·rw [h1]
    obtain ⟨lo, hlo, h2⟩ := b2i (P := P) o (fun o' => K2 d o')
    rw [h2]
    simp only [K2]
    split
    ·rename_i hg
     rcases ih (fun r => K (.cons d lo r)) with ⟨L, hL, h3⟩ | h3
     ·exact .inl ⟨_, .cons hd hlo hg hL, h3⟩
     ·exact .inr h3
    ·rename_i j w hg
     split
     ·rename_i t ht
      rw [kT]
      split
      ·rename_i htk
       rw [lO, wC]
       rw [blt_eq] at htk
       rcases ih (fun r => K (.gcons (kU t) w d lo r)) with ⟨L, hL, h3⟩ | h3
       ·exact .inl ⟨_, .gcons hd hlo hg ht (by simpa using htk) hL, h3⟩
       ·exact .inr h3
      ·exact .inr rfl
     ·exact .inr rfl
   ·exact .inr h1
theorem c2k (k : Nat) (ops : Array Oper) (o : Oper) (no : α) (K : Option (Pth × Bool) → α) : (∃ g, GOk ops o g ∧ loG k ops o.guard no K = K g) ∨ loG k ops o.guard no K = no := by
 cases hg : o.guard with
 | none => exact .inl ⟨none, .inl ⟨hg, rfl⟩, rfl⟩
 | some x =>
   obtain ⟨j, w⟩ := x
   unfold loG
   cases ht : (ops[j]?).bind (·.dst) with
   | none => exact .inr (by simp only [ht])
   | some t =>
     simp only [ht, kT]
     split
     ·refine .inl ⟨some (kU t, w), .inr ⟨j, w, t, hg, ht, rfl⟩, ?_⟩
      rw [lO, wC]
     ·exact .inr rfl
theorem b6K (k : Nat) (ops : Array Oper) (tab : List (Nat × Nat)) (K : List (Nat × Option Nat × Option (Pth × Bool) × LOp) → α) (no : α) : (∃ t, LowTab P ops tab t ∧ uH P k ops ops.size tab K no = K t) ∨ uH P k ops ops.size tab K no = no := by
 induction tab generalizing K with
 | nil => exact .inl ⟨_, .nil, rfl⟩
 | cons x tab ih =>
   obtain ⟨i, m⟩ := x
   cases ho : ops[i]? with
   | none =>
     refine .inr ?_
     show (match ops[i]? with
      | some o => _
      | none => no) = no
     rw [ho]
   | some o =>
     let K2 : Option (Pth × Bool) → LOp → α := fun g o' => kF (ops.size - 1 - i) fun i => nZ (Nat.blt m ops.size) (uH P k ops ops.size tab (fun l => K ((i, none, g, o') :: l)) no) (kF (ops.size - 1 - m) fun m => uH P k ops ops.size tab (fun l => K ((i, some m, g, o') :: l)) no)
     have e : uH P k ops ops.size ((i, m) :: tab) K no = loG k ops o.guard no fun g => zK P o fun o' => K2 g o' := by
      show (match ops[i]? with
       | some o => loG k ops o.guard no fun g => zK P o fun o' => K2 g o'
       | none => no) = _
      rw [ho]
     rw [e]
     rcases c2k k ops o no (fun g => zK P o fun o' => K2 g o') with ⟨g, hgd, h1⟩ | h1
     ·rw [h1]
      obtain ⟨lo, hlo, h2⟩ := b2i (P := P) o (fun o' => K2 g o')
      rw [h2]
      show (∃ t, _ ∧ kF (ops.size - 1 - i) (fun i => nZ (Nat.blt m ops.size) (uH P k ops ops.size tab (fun l => K ((i, none, g, lo) :: l)) no) (kF (ops.size - 1 - m) fun m => uH P k ops ops.size tab (fun l => K ((i, some m, g, lo) :: l)) no)) = K t) ∨ kF (ops.size - 1 - i) (fun i => nZ (Nat.blt m ops.size) (uH P k ops ops.size tab (fun l => K ((i, none, g, lo) :: l)) no) (kF (ops.size - 1 - m) fun m => uH P k ops ops.size tab (fun l => K ((i, some m, g, lo) :: l)) no)) = no
      rw [kB, kT, kB, blt_eq]
      by_cases hm : m < ops.size
      ·rw [if_pos (by simpa using hm)]
       rcases ih (fun l => K ((ops.size - 1 - i, some (ops.size - 1 - m), g, lo) :: l)) with ⟨t, ht, h3⟩ | h3
       ·have := LowTab.cons (m := m) ho hgd hlo ht
        rw [if_pos hm] at this
        exact .inl ⟨_, this, h3⟩
       ·exact .inr h3
      ·rw [if_neg (by simpa using hm)]
       rcases ih (fun l => K ((ops.size - 1 - i, none, g, lo) :: l)) with ⟨t, ht, h3⟩ | h3
       ·have := LowTab.cons (m := m) ho hgd hlo ht
        rw [if_neg hm] at this
        exact .inl ⟨_, this, h3⟩
       ·exact .inr h3
     ·exact .inr h1
theorem b4j (k : Nat) (l : List Tmp) (K : List Pth → α) (no : α) : ((∀ t ∈ l, t < k) ∧ xF k l K no = K (l.map kU)) ∨ xF k l K no = no := by
 induction l generalizing K with
 | nil => exact .inl ⟨by simp, rfl⟩
 | cons t l ih =>
   show _ ∨ nZ (Nat.blt t k) no (lP (kU t) fun p => xF k l (fun l => K (p :: l)) no) = no
   have e : xF k (t :: l) K no = nZ (Nat.blt t k) no (lP (kU t) fun p => xF k l (fun l => K (p :: l)) no) := rfl
   rw [e, kT, lO, blt_eq]
   by_cases h : t < k
   ·rw [if_pos (by simpa using h)]
    rcases ih (fun l => K (kU t :: l)) with ⟨h1, h2⟩ | h2
    ·exact .inl ⟨by simpa using ⟨h, h1⟩, h2⟩
    ·exact .inr h2
   ·rw [if_neg (by simpa using h)]; exact .inr rfl
theorem b3p (k : Nat) (c : Code) (K : LCode → α) : ∃ C, Low P k c C ∧ nH P k c K = K C := by
 induction c generalizing K with
 | skip => exact ⟨_, .skip, rfl⟩
 | region id ops d =>
   cases d with
   | false =>
     show ∃ C, _ ∧ uY P k ops ops.toList (fun l => K (.reg l)) (K .bad) = K C
     rcases a2N (P := P) k ops ops.toList (fun l => K (.reg l)) (K .bad) with ⟨L, hL, h⟩ | h
     ·exact ⟨_, .reg hL (fun h => by cases h), h⟩
     ·exact ⟨_, .bad _, h⟩
   | true =>
     show ∃ C, _ ∧ (match nE P ops with
      | some [] => uY P k ops ops.toList (fun l => K (.reg l)) (K .bad)
      | some tab => uY P k ops ops.toList (fun l => uH P k ops ops.size tab (fun t => K (.drw l t)) (K .bad)) (K .bad)
      | none => K .bad) = K C
     split
     ·rename_i hd
      rcases a2N (P := P) k ops ops.toList (fun l => K (.reg l)) (K .bad) with ⟨L, hL, h⟩ | h
      ·exact ⟨_, .reg hL (fun _ => hd), h⟩
      ·exact ⟨_, .bad _, h⟩
     ·rename_i tab _ hd
      rcases a2N (P := P) k ops ops.toList (fun l => uH P k ops ops.size tab (fun t => K (.drw l t)) (K .bad)) (K .bad) with ⟨L, hL, h⟩ | h
      ·rw [h]
       rcases b6K (P := P) k ops tab (fun t => K (.drw L t)) (K .bad) with ⟨t, ht, h2⟩ | h2
       ·exact ⟨_, .drw hL hd ht, h2⟩
       ·exact ⟨_, .bad _, h2⟩
      ·exact ⟨_, .bad _, h⟩
     ·exact ⟨_, .bad _, rfl⟩
 | seq a b iha ihb =>
   show ∃ C, _ ∧ nH P k a (fun a => nH P k b fun b => K (.seq a b)) = K C
   obtain ⟨A, hA, h1⟩ := iha (fun a => nH P k b fun b => K (.seq a b))
   obtain ⟨B, hB, h2⟩ := ihb (fun b => K (.seq A b))
   exact ⟨_, .seq hA hB, h1.trans h2⟩
 | cond c x y ihx ihy =>
   show ∃ C, _ ∧ nZ (iQ c) (K .bad) (lT c fun c => nH P k x fun x => nH P k y fun y => K (.cond c x y)) = K C
   rw [kT]
   split
   ·rename_i hc
    rw [lD]
    obtain ⟨X, hX, h1⟩ := ihx (fun x => nH P k y fun y => K (.cond (iW c) x y))
    obtain ⟨Y, hY, h2⟩ := ihy (fun y => K (.cond (iW c) X y))
    exact ⟨_, .cond hc hX hY, h1.trans h2⟩
   ·exact ⟨_, .bad _, rfl⟩
 | block id b ih =>
   show ∃ C, _ ∧ kF id (fun id => nH P k b fun b => K (.block id b)) = K C
   rw [kB]
   obtain ⟨B, hB, h1⟩ := ih (fun b => K (.block id b))
   exact ⟨_, .block hB, h1⟩
 | loop b ih =>
   show ∃ C, _ ∧ nH P k b (fun b => K (.loop b)) = K C
   obtain ⟨B, hB, h1⟩ := ih (fun b => K (.loop b))
   exact ⟨_, .loop hB, h1⟩
 | rangeFunc g ps assign body iha ihb =>
   show ∃ C, _ ∧ nZ (iQ g) (K .bad) (lT g fun g' => b4f k fun pp => xF k ps.toList (fun q => nH P k assign fun a => nH P k body fun b => K (.range g' pp q ps assign body a b)) (K .bad)) = K C
   rw [kT]
   split
   ·rename_i hg
    rw [lD, b2o]
    rcases b4j k ps.toList (fun q => nH P k assign fun a => nH P k body fun b => K (.range (iW g) ((List.range k).map kU) q ps assign body a b)) (K .bad) with ⟨hps, h⟩ | h
    ·obtain ⟨A, hA, h1⟩ := iha (fun a => nH P k body fun b => K (.range (iW g) ((List.range k).map kU) (ps.toList.map kU) ps assign body a b))
     obtain ⟨B, hB, h2⟩ := ihb (fun b => K (.range (iW g) ((List.range k).map kU) (ps.toList.map kU) ps assign body A b))
     exact ⟨_, .range hg hps hA hB, h.trans (h1.trans h2)⟩
    ·exact ⟨_, .bad _, h⟩
   ·exact ⟨_, .bad _, rfl⟩
 | exit id =>
   show ∃ C, _ ∧ kF id (fun id => K (.exit id)) = K C
   rw [kB]
   exact ⟨_, .exit id, rfl⟩
 | label t => exact ⟨_, .label t, rfl⟩
 | ret => exact ⟨_, .ret, rfl⟩
 | scope b _ => exact ⟨_, .bad _, rfl⟩
 | goto t => exact ⟨_, .bad _, rfl⟩
 | refuse w => exact ⟨_, .bad _, rfl⟩
end
theorem wA {α : Type} {k : Nat} {f : Fr} {l : List Value} (h : FRel k f l) {dst : Option Tmp} {d : Option Pth} (hd : DOk k dst d) (v : Value) (K : Fr → α) : ∃ f', uQ d v f K = K f' ∧ FRel k f' (put l dst v) := by
 rcases hd with ⟨rfl, rfl⟩ | ⟨t, rfl, ht, rfl⟩
 ·exact ⟨f, rfl, h⟩
 ·exact ⟨b5e f t v, tK v (kU t) f K, h.put ht v⟩
theorem yC {ops : Array Oper} {l : List Value} {j t : Nat} (ht : (ops[j]?).bind (·.dst) = some t) (htl : t < l.length) (w : Bool) : (iV ops l j == some w) = isB (get l t) w := by
 have hg : get l t = l[t] := by rw [oM]; simp [htl]
 unfold iV
 rw [ht, hg]
 simp only [dq htl]
 cases hv : l[t] <;> simp [isB]
 rename_i b
 cases b <;> cases w <;> rfl
theorem b9D {k : Nat} {ops : Array Oper} {C : Calls'} {H0 : Heap} (hC : CallsOk P C H0) {os : List Oper} {lo : LOps} (hlo : LowOps P k ops os lo) : ∀ {i : Nat}, ops.toList.drop i = os → ∀ {f : Fr} {l : List Value} {H : Heap} {f1 : Fr} {H1 : Heap},
 FRel k f l → LK H0 H → zX P C lo f H = .ok f1 H1 → ∃ l1, FRel k f1 l1 ∧ OpsR P ops (List.range' i os.length) l H l1 H1 ∧ LK H H1 := by
 induction hlo with
 | nil =>
   intro i _ f l H f1 H1 hf _ h
   injection h with h1 h2
   subst h1 h2
   exact ⟨l, hf, .nil l H, .refl H⟩
 | @cons o os d lo r hd ho hg hr ih =>
   intro i hi f l H f1 H1 hf hk h
   have hio : ops[i]? = some o := by
    have : (ops.toList.drop i)[0]? = some o := by rw [hi]; rfl
    rw [dG] at this
    simpa using this
   have hi' : ops.toList.drop (i + 1) = os := by rw [← fA, hi]; rfl
   have hw : Region.wanted o (iV ops l) = true := by simp [Region.wanted, hg]
   have h : b1Y Rf.no d f (zX P C r) (opF P C lo f H) = .ok f1 H1 := h
   have key : ∀ v H2, (opF P C lo f H).Is v H2 → (uQ d v f fun f => zX P C r f H2) = .ok f1 H1 → ∃ l1, FRel k f1 l1 ∧ OpsR P ops (List.range' i (o :: os).length) l H l1 H1 ∧ LK H H1 := by
    intro v H2 hop hrest
    obtain ⟨hs, hk2⟩ := ho C H0 f l H v H2 hC hk hf.2 hop
    obtain ⟨f', e, hf'⟩ := wA hf hd v (fun f => zX P C r f H2)
    rw [e] at hrest
    obtain ⟨l1, h1, h2, h3⟩ := ih hi' hf' (hk.trans hk2) hrest
    exact ⟨l1, h1, .step hio hw hs h2, hk2.trans h3⟩
   cases hop : opF P C lo f H with
   | no => rw [hop] at h; cases h
   | ok v H2 => rw [hop] at h; exact key v H2 (.inl hop) h
   | th v H2 =>
     rw [hop] at h
     have h : zS v (fun v => nR H2 fun H2 => uQ d v f fun f => zX P C r f H2) = .ok f1 H1 := h
     rw [zD, lZ] at h
     exact key v H2 (.inr hop) h
 | @gcons o os d lo r j t w hd ho hg ht htk hr ih =>
   intro i hi f l H f1 H1 hf hk h
   have hio : ops[i]? = some o := by
    have : (ops.toList.drop i)[0]? = some o := by rw [hi]; rfl
    rw [dG] at this
    simpa using this
   have hi' : ops.toList.drop (i + 1) = os := by rw [← fA, hi]; rfl
   have hwi : Region.wanted o (iV ops l) = isB (oC (kU t) f) w := by
    simp only [Region.wanted, hg]
    rw [yC ht (by rw [hf.1]; exact htk) w, hf.2 t]
   have h : nZ (isB (oC (kU t) f) w) (uQ d undef f fun f => zX P C r f H) (b1Y Rf.no d f (zX P C r) (opF P C lo f H)) = .ok f1 H1 := h
   rw [kT] at h
   split at h
   ·rename_i hb
    have key : ∀ v H2, (opF P C lo f H).Is v H2 → (uQ d v f fun f => zX P C r f H2) = .ok f1 H1 → ∃ l1, FRel k f1 l1 ∧ OpsR P ops (List.range' i (o :: os).length) l H l1 H1 ∧ LK H H1 := by
     intro v H2 hop hrest
     obtain ⟨hs, hk2⟩ := ho C H0 f l H v H2 hC hk hf.2 hop
     obtain ⟨f', e, hf'⟩ := wA hf hd v (fun f => zX P C r f H2)
     rw [e] at hrest
     obtain ⟨l1, h1, h2, h3⟩ := ih hi' hf' (hk.trans hk2) hrest
     exact ⟨l1, h1, .step hio (by rw [hwi, hb]) hs h2, hk2.trans h3⟩
    cases hop : opF P C lo f H with
    | no => rw [hop] at h; cases h
    | ok v H2 => rw [hop] at h; exact key v H2 (.inl hop) h
    | th v H2 =>
      rw [hop] at h
      have h : zS v (fun v => nR H2 fun H2 => uQ d v f fun f => zX P C r f H2) = .ok f1 H1 := h
      rw [zD, lZ] at h
      exact key v H2 (.inr hop) h
   ·rename_i hb
    obtain ⟨f', e, hf'⟩ := wA hf hd undef (fun f => zX P C r f H)
    rw [e] at h
    obtain ⟨l1, h1, h2, h3⟩ := ih hi' hf' hk h
    exact ⟨l1, h1, .past hio (by rw [hwi]; simpa using hb) h2, h3⟩
structure Noted (P : Program) (k : Nat) (ops : Array Oper) (H : Heap) (i n : Nat) (T : Nat → List Value × Heap) (val : Nat → Value) (tr0 tr : List (Fr × Heap × Value)) : Prop where
 step : ∀ j, i ≤ j → j < i + n → wV P ops j (T j) (T (j + 1)) (val j)
 new : ∀ j, i ≤ j → j < i + n → ∃ g, tr[i + n - 1 - j]? = some (g, (T j).2, val j) ∧ FAg g (T j).1
 old : ∀ m, tr[n + m]? = tr0[m]?
 lk : ∀ j, i ≤ j → j ≤ i + n → LK H (T j).2
theorem b6U {k : Nat} {ops : Array Oper} {C : Calls'} {H0 : Heap} (hC : CallsOk P C H0) {os : List Oper} {lo : LOps} (hlo : LowOps P k ops os lo) : ∀ {i : Nat}, ops.toList.drop i = os → ∀ {tr0 tr : List (Fr × Heap × Value)} {f : Fr} {l : List Value} {H : Heap} {f1 : Fr} {H1 : Heap},
 FRel k f l → LK H0 H → rP P C lo tr0 f H = .ok tr f1 H1 → ∃ T val l1, T i = (l, H) ∧ T (i + os.length) = (l1, H1) ∧ FRel k f1 l1 ∧ Noted P k ops H i os.length T val tr0 tr := by
 have more : ∀ {i n : Nat} {o : Oper} {tr0 tr : List (Fr × Heap × Value)} {f : Fr} {l : List Value} {H : Heap} {v : Value} {l2 : List Value} {H2 : Heap} {l1 : List Value} {H1 : Heap} {f1 : Fr}, FRel k f l → wV P ops i (l, H) (l2, H2) v → LK H H2 →
  (∃ T val l1, T (i + 1) = (l2, H2) ∧ T (i + 1 + n) = (l1, H1) ∧ FRel k f1 l1 ∧ Noted P k ops H2 (i + 1) n T val ((f, H, v) :: tr0) tr) →
  ∃ T val l1, T i = (l, H) ∧ T (i + (n + 1)) = (l1, H1) ∧ FRel k f1 l1 ∧ Noted P k ops H i (n + 1) T val tr0 tr := by
  intro i n o tr0 tr f l H v l2 H2 _ H1 f1 hf hst hk ⟨T, val, l1, h1, h2, h3, hN⟩
  refine ⟨fun j => if j ≤ i then (l, H) else T j, fun j => if j ≤ i then v else val j, l1, by simp, ?_, h3, ?_⟩
  ·show (if i + (n + 1) ≤ i then (l, H) else T (i + (n + 1))) = _
   rw [if_neg (by omega), ← h2]; congr 1; omega
  ·refine ⟨fun j hj hn => ?_, fun j hj hn => ?_, fun m => ?_, fun j hj hn => ?_⟩
   ·by_cases he : j = i
    ·subst he
     simp only [dh, if_true]
     rw [if_neg (by omega), h1]
     exact hst
    ·rw [if_neg (by omega), if_neg (by omega), if_neg (by omega)]
     exact hN.step j (by omega) (by omega)
   ·by_cases he : j = i
    ·subst he
     simp only [dh, if_true]
     refine ⟨f, ?_, hf.2⟩
     have := hN.old 0
     rw [show j + (n + 1) - 1 - j = n + 0 by omega, this]; rfl
    ·rw [if_neg (by omega), if_neg (by omega)]
     obtain ⟨g, hg, hag⟩ := hN.new j (by omega) (by omega)
     exact ⟨g, by rw [← hg]; congr 1; omega, hag⟩
   ·have := hN.old (m + 1)
    rw [show n + 1 + m = n + (m + 1) by omega, this]; rfl
   ·by_cases he : j = i
    ·subst he; simp only [dh, if_true]; exact .refl H
    ·rw [if_neg (by omega)]; exact hk.trans (hN.lk j (by omega) (by omega))
 induction hlo with
 | nil =>
   intro i _ tr0 tr f l H f1 H1 hf _ h
   injection h with h1 h2 h3
   subst h1 h2 h3
   exact ⟨fun _ => (l, H), fun _ => undef, l, rfl, rfl, hf, fun j _ h => absurd h (by simp; omega), fun j _ h => absurd h (by simp; omega), fun m => by simp, fun _ _ _ => .refl H⟩
 | @cons o os d lo r hd ho hg hr ih =>
   intro i hi tr0 tr f l H f1 H1 hf hk h
   have hio : ops[i]? = some o := by
    have : (ops.toList.drop i)[0]? = some o := by rw [hi]; rfl
    rw [dG] at this
    simpa using this
   have hi' : ops.toList.drop (i + 1) = os := by rw [← fA, hi]; rfl
   have hw : Region.wanted o (iV ops l) = true := by simp [Region.wanted, hg]
   have h : b2f tr0 f H d (rP P C r) (opF P C lo f H) = .ok tr f1 H1 := h
   have key : ∀ v H2, (opF P C lo f H).Is v H2 → (uQ d v f fun f2 => rP P C r ((f, H, v) :: tr0) f2 H2) = .ok tr f1 H1 → ∃ T val l1, T i = (l, H) ∧ T (i + (o :: os).length) = (l1, H1) ∧ FRel k f1 l1 ∧ Noted P k ops H i (o :: os).length T val tr0 tr := by
    intro v H2 hop hrest
    obtain ⟨hs, hk2⟩ := ho C H0 f l H v H2 hC hk hf.2 hop
    obtain ⟨f', e, hf'⟩ := wA hf hd v (fun f2 => rP P C r ((f, H, v) :: tr0) f2 H2)
    rw [e] at hrest
    have := ih hi' hf' (hk.trans hk2) hrest
    exact more (o := o) (l1 := l) hf ⟨o, hio, rfl, .inl ⟨hw, hs⟩⟩ hk2 this
   cases hop : opF P C lo f H with
   | no => rw [hop] at h; cases h
   | ok v H2 => rw [hop] at h; exact key v H2 (.inl hop) h
   | th v H2 =>
     rw [hop] at h
     have h : zS v (fun v => nR H2 fun H2 => uQ d v f fun f2 => rP P C r ((f, H, v) :: tr0) f2 H2) = .ok tr f1 H1 := h
     rw [zD, lZ] at h
     exact key v H2 (.inr hop) h
 | @gcons o os d lo r j t w hd ho hg ht htk hr ih =>
   intro i hi tr0 tr f l H f1 H1 hf hk h
   have hio : ops[i]? = some o := by
    have : (ops.toList.drop i)[0]? = some o := by rw [hi]; rfl
    rw [dG] at this
    simpa using this
   have hi' : ops.toList.drop (i + 1) = os := by rw [← fA, hi]; rfl
   have hwi : Region.wanted o (iV ops l) = isB (oC (kU t) f) w := by
    simp only [Region.wanted, hg]
    rw [yC ht (by rw [hf.1]; exact htk) w, hf.2 t]
   have h : nZ (isB (oC (kU t) f) w) (uQ d undef f fun f2 => rP P C r ((f, H, undef) :: tr0) f2 H) (b2f tr0 f H d (rP P C r) (opF P C lo f H)) = .ok tr f1 H1 := h
   rw [kT] at h
   split at h
   ·rename_i hb
    have key : ∀ v H2, (opF P C lo f H).Is v H2 → (uQ d v f fun f2 => rP P C r ((f, H, v) :: tr0) f2 H2) = .ok tr f1 H1 → ∃ T val l1, T i = (l, H) ∧ T (i + (o :: os).length) = (l1, H1) ∧ FRel k f1 l1 ∧ Noted P k ops H i (o :: os).length T val tr0 tr := by
     intro v H2 hop hrest
     obtain ⟨hs, hk2⟩ := ho C H0 f l H v H2 hC hk hf.2 hop
     obtain ⟨f', e, hf'⟩ := wA hf hd v (fun f2 => rP P C r ((f, H, v) :: tr0) f2 H2)
     rw [e] at hrest
     exact more (o := o) (l1 := l) hf ⟨o, hio, rfl, .inl ⟨by rw [hwi, hb], hs⟩⟩ hk2 (ih hi' hf' (hk.trans hk2) hrest)
    cases hop : opF P C lo f H with
    | no => rw [hop] at h; cases h
    | ok v H2 => rw [hop] at h; exact key v H2 (.inl hop) h
    | th v H2 =>
      rw [hop] at h
      have h : zS v (fun v => nR H2 fun H2 => uQ d v f fun f2 => rP P C r ((f, H, v) :: tr0) f2 H2) = .ok tr f1 H1 := h
      rw [zD, lZ] at h
      exact key v H2 (.inr hop) h
   ·rename_i hb
    obtain ⟨f', e, hf'⟩ := wA hf hd undef (fun f2 => rP P C r ((f, H, undef) :: tr0) f2 H)
    rw [e] at h
    exact more (o := o) (l1 := l) hf ⟨o, hio, rfl, .inr ⟨by rw [hwi]; simpa using hb, rfl, rfl⟩⟩ (.refl H) (ih hi' hf' hk h)
theorem b2q {α : Type} (p : α → Bool) (l : List α) : b5k p l = l.all p := by
 induction l with
 | nil => rfl
 | cons x l ih =>
   show nZ (p x) false (b5k p l) = _
   rw [kT, ih, fx]
   cases p x <;> rfl
theorem b8R {v : Value} {r : Rs} (h : b8b v r = true) : ∃ H, r.Is v H := by
 cases r with
 | no => cases h
 | ok w H => exact ⟨H, .inl (by rw [b5K (show veq w v = true from h)])⟩
 | th w H => exact ⟨H, .inr (by rw [b5K (show veq w v = true from h)])⟩
theorem LowTab.get {ops : Array Oper} {tab : List (Nat × Nat)} {t : List (Nat × Option Nat × Option (Pth × Bool) × LOp)} (h : LowTab P ops tab t) {i m : Nat} (hm : (i, m) ∈ tab) : ∃ o lo g, ops[i]? = some o ∧ GOk ops o g ∧ wX P o lo ∧ (ops.size - 1 - i, (if m < ops.size then some (ops.size - 1 - m) else none), g, lo) ∈ t := by
 induction h with
 | nil => cases hm
 | @cons i2 m2 o lo tab t g ho hgd hl hr ih =>
   rcases dR.1 hm with he | hm
   ·injection he with h1 h2
    subst h1 h2
    exact ⟨o, lo, g, ho, hgd, hl, by simp⟩
   ·obtain ⟨o', lo', g', h1, h0, h2, h3⟩ := ih hm
    exact ⟨o', lo', g', h1, h0, h2, dP _ h3⟩
theorem a9V {fl : Fl} {ops : Array Oper} {i m : Nat} (h : (i, m) ∈ mM fl ops) {o : Oper} (ho : ops[i]? = some o) : nU o.op = true := by
 unfold mM at h
 simp only [dQ] at h
 obtain ⟨⟨x, j⟩, hx, h⟩ := h
 dsimp only at h
 split at h
 ·rename_i hr
  simp only [dy] at h
  obtain ⟨m', _, e⟩ := h
  injection e with e1 e2
  subst e1
  have := gm.1 hx
  have : ops[j]? = some x := by simpa using this
  rw [this] at ho
  injection ho with ho
  subst ho
  exact hr
 ·cases h
theorem c0b (jZ : P.follows .mixedOrders = true) {k id : Nat} {ops : Array Oper} {C : Calls'} {H : Heap} (hC : CallsOk P C H) {lo : LOps} {tab : List (Nat × Nat)} {t : List (Nat × Option Nat × Option (Pth × Bool) × LOp)} (hlo : LowOps P k ops ops.toList lo) (htab : nE P ops = some tab) (hl : LowTab P ops tab t)
 {f : Fr} {l : List Value} {e : Ex} {f1 : Fr} {H1 : Heap} (hf : FRel k f l) (h : c0Q P C t (rP P C lo [] f H) = .ok e f1 H1) : ∃ l1, e = .normal ∧ FRel k f1 l1 ∧ Sim P (.region id ops true) l H .normal l1 H1 ∧ LK H H1 := by
 cases hr : rP P C lo [] f H with
 | no => rw [hr] at h; cases h
 | ok tr f2 H2 =>
   rw [hr] at h
   have h : nZ (b5k (b5n P C tr H2) t) Rc.no (.ok .normal f2 H2) = .ok e f1 H1 := h
   rw [kT] at h
   split at h
   case isFalse => cases h
   rename_i hall
   injection h with h1 h2 h3
   subst h1 h2 h3
   obtain ⟨T, val, l1, hT0, hTn, hf1, hN⟩ := b6U hC hlo (i := 0) rfl hf (.refl H) hr
   rw [fC, fW] at hTn
   rw [fC] at hN
   have hlk : LK H H2 := by have := hN.lk ops.size (eW _) (by omega); rwa [hTn] at this
   refine ⟨l1, rfl, hf1, ?_, hlk⟩
   have := Sim.draw jZ (id := id) htab (T := T) (val := val) ⟨fun j hj => hN.step j (eW _) (by omega)⟩ ?_
   ·rw [hT0, hTn] at this; exact this
   ·intro i m o hm ho hw
    obtain ⟨o', lo', gd, ho', hgd, hlow, hmem⟩ := hl.get hm
    rw [ho] at ho'
    obtain rfl := cW ho'
    rw [b2q, dr] at hall
    have hrd := hall _ hmem
    have hi : i < ops.size := (de.1 ho).1
    obtain ⟨g, hg, hag⟩ := hN.new i (eW _) (by omega)
    have hg : tr[ops.size - 1 - i]? = some (g, (T i).2, val i) := by rw [← hg]; congr 1; omega
    have hread : nU o.op = true := by
     obtain ⟨fl, _, rfl⟩ := qG htab
     exact a9V hm ho
    have fin : ∀ H3, LK H H3 → b8b (val i) (opF P C lo' g H3) = true → ∃ H4, opD P o (T i).1 H3 = some (val i, H4) := by
     intro H3 hk3 hq
     obtain ⟨H4, h4⟩ := b8R hq
     obtain ⟨hs, _⟩ := hlow C H g (T i).1 H3 (val i) H4 hC hk3 hag h4
     refine ⟨H4, hs.opD fun c fv hc hv => ?_⟩
     rw [hc] at hread
     simp [nU, hv] at hread
    unfold b5n at hrd
    simp only [yO, hg, hgd.runs hag hw] at hrd
    rw [kT, if_pos rfl] at hrd
    by_cases hms : m < ops.size
    ·rw [if_pos hms] at hrd
     obtain ⟨g2, hg2, _⟩ := hN.new m (eW _) (by omega)
     have hg2 : tr[ops.size - 1 - m]? = some (g2, (T m).2, val m) := by rw [← hg2]; congr 1; omega
     simp only [hg2] at hrd
     exact fin _ (hN.lk m (eW _) (by omega)) hrd
    ·rw [if_neg hms] at hrd
     have hle : m = ops.size := by
      obtain ⟨fl, _, rfl⟩ := qG htab
      have := a2G hm
      omega
     subst hle
     have := fin H2 hlk hrd
     rw [hTn]; exact this
def vA (P : Program) : List ResultVar → List LRes → Prop
 | [], [] => True
 | r :: rs, l :: ls => (match r, l with
   | .tmp t, .t p => p = kU t
   | .cell a t, .c1 p => p = kU a ∧ jT P t = some false
   | .cell a t, .cn n p => p = kU a ∧ jT P t = some true ∧ iE P t = some n
   | _, _ => False) ∧ vA P rs ls
 | _, _ => False
theorem b7e {α : Type} (l : List ResultVar) (K : List LRes → α) (no : α) : (∃ r, vA P l r ∧ a1c P l K no = K r) ∨ a1c P l K no = no := by
 induction l generalizing K with
 | nil => exact .inl ⟨[], trivial, rfl⟩
 | cons r l ih =>
   cases r with
   | tmp t =>
     have e : a1c P (.tmp t :: l) K no = lP (kU t) fun p => a1c P l (fun l => K (.t p :: l)) no := rfl
     rw [e, lO]
     rcases ih (fun l => K (.t (kU t) :: l)) with ⟨q, h1, h2⟩ | h2
     ·exact .inl ⟨.t (kU t) :: q, ⟨rfl, h1⟩, h2⟩
     ·exact .inr h2
   | cell a t =>
     have e : a1c P (.cell a t :: l) K no = match jT P t with
      | some true => a3u (iE P t) no fun n => lP (kU a) fun p => a1c P l (fun l => K (.cn n p :: l)) no
      | some false => lP (kU a) fun p => a1c P l (fun l => K (.c1 p :: l)) no
      | none => no := rfl
     rw [e]
     split
     ·rename_i ha
      cases hn : iE P t with
      | none => exact .inr rfl
      | some n =>
        rw [pF, lO]
        rcases ih (fun l => K (.cn n (kU a) :: l)) with ⟨q, h1, h2⟩ | h2
        ·exact .inl ⟨.cn n (kU a) :: q, ⟨⟨rfl, ha, hn⟩, h1⟩, h2⟩
        ·exact .inr h2
     ·rename_i ha
      rw [lO]
      rcases ih (fun l => K (.c1 (kU a) :: l)) with ⟨q, h1, h2⟩ | h2
      ·exact .inl ⟨.c1 (kU a) :: q, ⟨⟨rfl, ha⟩, h1⟩, h2⟩
      ·exact .inr h2
     ·exact .inr rfl
theorem b1L {H H1 : Heap} {f : Fr} {l : List Value} (hf : FAg f l) {r : ResultVar} {q : LRes} {rs : List ResultVar} {qs : List LRes} (h : vA P (r :: rs) (q :: qs)) {v : Value} (hv : (a4c H f q).Is v H1) : H1 = H ∧ a1J P l H r = some v ∧ vA P rs qs := by
 obtain ⟨h, hr⟩ := h
 cases r with
 | tmp t => cases q with
   | t p =>
     have h : p = kU t := h
     subst h
     have hv : (oJ (oC (kU t) f) fun v => Rs.ok v H).Is v H1 := hv
     rw [mW] at hv
     obtain ⟨rfl, rfl⟩ := Rs.aM hv
     exact ⟨rfl, by rw [hf t]; rfl, hr⟩
   | c1 p => exact h.elim
   | cn n p => exact h.elim
 | cell a t => cases q with
   | t p => exact h.elim
   | c1 p =>
     obtain ⟨rfl, ha⟩ := h
     obtain ⟨e, h1⟩ := b2d (P := P) (X := .t (kU a)) (w := get l a) ha (hf a) hv
     exact ⟨e, h1, hr⟩
   | cn n p =>
     obtain ⟨rfl, ha, hn⟩ := h
     obtain ⟨e, h1⟩ := b1T (P := P) (X := .t (kU a)) (w := get l a) ha hn (hf a) hv
     exact ⟨e, h1, hr⟩
theorem b9q {H : Heap} {f : Fr} {q : LRes} {v : Value} {H1 : Heap} : ¬ (a4c H f q = .th v H1) := by
 intro h
 cases q with
 | t p =>
   have h : (oJ (oC p f) fun v => Rs.ok v H) = .th v H1 := h
   rw [mW] at h; cases h
 | c1 p =>
   have h : b4m (.t p) f H = .th v H1 := h
   unfold b4m at h
   split at h
   ·unfold b9Y at h
    split at h
    ·rw [kT, kT, kT] at h
     split at h
     ·split at h
      ·split at h
       ·rename_i cs _ _ _ _ _ _ _ _
        cases hn : a1u cs _ with
        | none => rw [hn] at h; cases h
        | some w => rw [hn] at h; have h : (oJ w fun v => Rs.ok v H) = .th v H1 := h; rw [mW] at h; cases h
       ·cases h
      ·cases h
     ·cases h
    ·cases h
   ·unfold c1K at h
    split at h
    ·rw [kT] at h
     split at h
     ·rename_i cs _ _ _ _
      cases hn : a1u cs _ with
      | none => rw [hn] at h; cases h
      | some w => rw [hn] at h; have h : (oJ w fun v => Rs.ok v H) = .th v H1 := h; rw [mW] at h; cases h
     ·cases h
    ·cases h
   ·cases h
 | cn n p =>
   have hh : b3K n (.t p) f H = .th v H1 := h
   unfold b3K at hh
   split at hh
   ·unfold b9S at hh
    split at hh
    ·rw [kT, kT, kT] at hh
     split at hh
     ·split at hh
      ·split at hh
       ·have key : ∀ {cs : List Value} {n : Nat} {pre : List Value}, ¬ (a3f cs n fun l => Rs.ok (.agg ⟨pre ++ l⟩) H) = .th v H1 := by
         intro cs
         induction cs with
         | nil => intro n pre h; cases n <;> cases h
         | cons c cs ih =>
           intro n pre h
           cases n with
           | zero => cases h
           | succ n =>
             have h : (a3f cs n fun l => Rs.ok (.agg ⟨pre ++ (c :: l)⟩) H) = .th v H1 := h
             have e : ∀ l : List Value, pre ++ (c :: l) = (pre ++ [c]) ++ l := by intro l; simp
             have h2 : (a3f cs n fun l => Rs.ok (.agg ⟨(pre ++ [c]) ++ l⟩) H) = .th v H1 := by
              rw [← h]; congr 1; funext l; rw [e l]
             exact ih h2
        exact key (pre := []) hh
       ·cases hh
      ·cases hh
     ·cases hh
    ·cases hh
   ·cases hh
theorem a6Z {H H1 : Heap} {f : Fr} {l : List Value} (hf : FAg f l) {v : Value} : ∀ {rs : List ResultVar} {qs : List LRes} {K : List Value → Rs}, vA P rs qs → (b6g H f qs K).Is v H1 → ∃ vs, nN P l H rs = some vs ∧ (K vs).Is v H1
 | [], [], K, _, h => ⟨[], rfl, h⟩
 | [], _ :: _, _, h, _ => h.elim
 | _ :: _, [], _, h, _ => h.elim
 | r :: rs, q :: qs, K, hl, h => by
   have h : (Rs.rec (motive := fun _ => Rs) .no (fun v _ => b6g H f qs fun l => K (v :: l)) (fun _ _ => .no) (a4c H f q)).Is v H1 := h
   cases hq : a4c H f q with
   | no => rw [hq] at h; exact absurd h Rs.ar
   | th w H2 => exact absurd hq b9q
   | ok w H2 =>
     rw [hq] at h
     obtain ⟨e, h1, h2⟩ := b1L hf hl (.inl hq)
     obtain ⟨vs, h3, h4⟩ := a6Z hf h2 h
     exact ⟨w :: vs, by simp [nN, h1, h3], h4⟩
theorem b5j {fn : Func} {H H1 : Heap} {f : Fr} {l : List Value} (hf : FAg f l) {qs : List LRes} (hl : vA P fn.results.toList qs) {v : Value} (h : (a8a qs f H).Is v H1) : H1 = H ∧ iC P fn l H = some v := by
 unfold a8a at h
 split at h
 ·rename_i q
  cases hr : fn.results.toList with
  | nil => rw [hr] at hl; exact hl.elim
  | cons r rs =>
    rw [hr] at hl
    obtain ⟨e, h1, h2⟩ := b1L hf hl h
    cases rs with
    | cons _ _ => exact h2.elim
    | nil => exact ⟨e, by simp [iC, hr, nN, h1]⟩
 ·rename_i hne
  obtain ⟨vs, h1, h2⟩ := a6Z hf hl h
  obtain ⟨h3, h4⟩ := lI h2
  obtain ⟨rfl, rfl⟩ := Rs.aM h4
  refine ⟨rfl, ?_⟩
  have hlen : ∀ {rs : List ResultVar} {qs : List LRes}, vA P rs qs → rs.length = qs.length := by
   intro rs
   induction rs with
   | nil => intro qs h; cases qs with | nil => rfl | cons => exact h.elim
   | cons r rs ih => intro qs h; cases qs with | nil => exact h.elim | cons q qs => simp [ih h.2]
  have hvl : ∀ {rs : List ResultVar} {vs : List Value}, nN P l H1 rs = some vs → vs.length = rs.length := by
   intro rs
   induction rs with
   | nil => intro vs h; injection h with h; subst h; rfl
   | cons r rs ih =>
     intro vs h
     simp only [nN, cZ, dg] at h
     obtain ⟨w, _, ws, h1, h2⟩ := h
     subst h2
     simp [ih h1]
  have hn1 : vs.length ≠ 1 := by
   rw [hvl h1, hlen hl]
   intro h1
   match qs, h1 with
   | [q], _ => exact hne q rfl
  unfold iC
  rw [h1, cX]
  rw [b2q] at h3
  have h3 : vs.all jR = true := by rw [← h3]; congr 1
  split
  ·exact absurd rfl hn1
  ·rw [if_pos h3]
structure FuncOk (P : Program) (f : FuncId) (g : LFunc) : Prop where
 ex : ∃ fn c, P.funcs[f]? = some fn ∧ fn.body = some c ∧ (fn.name == "runtime.NumGoroutine") = false ∧ g.ps = (List.range fn.ntmps).map kU ∧ Low P fn.ntmps c g.body ∧ vA P fn.results.toList g.res
def TOk (P : Program) (T : LT) : Prop := ∀ f g, a2K (kU f) T = some g → FuncOk P f g
def EOk (P : Program) (E : List LEnv) (H : Heap) : Prop := ∀ en ∈ E, en.L < H.length ∧ ∀ r, iS H en.L = some (.loop r) →
 ∃ k, en.ps = (List.range k).map kU ∧ r.tmps.size = k ∧ en.pp = r.params.toList.map kU ∧ (∀ t ∈ r.params.toList, t < k) ∧ Low P k r.assign en.a ∧ Low P k r.body en.b
theorem EOk.ae {E : List LEnv} {H H' : Heap} (h : EOk P E H) (hk : LK H H') : EOk P E H' := fun en hen => by
 obtain ⟨h1, h2⟩ := h en hen
 refine ⟨dL h1 hk.1, fun r' hr' => ?_⟩
 obtain ⟨r, hr, ea, eb, ep, et⟩ := hk.2 en.L r' h1 hr'
 obtain ⟨k, a, b, c, d, e, f⟩ := h2 r hr
 exact ⟨k, a, by rw [et]; exact b, by rw [ep]; exact c, by rw [ep]; exact d, by rw [ea]; exact e, by rw [eb]; exact f⟩
def a3W (P : Program) (ih : qJ) : Prop := ∀ (E : List LEnv) (C : LCode) (k : Nat) (c : Code) (f : Fr) (l : List Value) (H : Heap) (e : Ex) (f1 : Fr) (H1 : Heap), Low P k c C → FRel k f l → EOk P E H → ih E C f H = .ok e f1 H1 →
 ∃ l1, FRel k f1 l1 ∧ Sim P c l H e l1 H1 ∧ LK H H1 ∧ ∀ b, c = .loop b → ∃ n, Rounds P b n l H e l1 H1
theorem a0d {α : Type} {no : α} : ∀ {l : List Value} {i m : Nat} {f : Fr} {K : Fr → α}, (pD no l ((List.range' i m).map kU) f K = no) ∨ (l.length ≤ m ∧ ∃ f', pD no l ((List.range' i m).map kU) f K = K f' ∧ ∀ t, oC (kU t) f' = if i ≤ t ∧ t < i + l.length then get l (t - i) else oC (kU t) f)
 | [], i, m, f, K => .inr ⟨eW _, f, rfl, fun t => by rw [if_neg (by simp only [dZ]; omega)]⟩
 | v :: l, i, 0, f, K => .inl rfl
 | v :: l, i, m + 1, f, K => by
   have e : pD no (v :: l) ((List.range' i (m + 1)).map kU) f K = pZ v (kU i) f fun f => pD no l ((List.range' (i + 1) m).map kU) f K := by
    rw [gD]; rfl
   rw [e, tK]
   rcases a0d (l := l) (i := i + 1) (m := m) (f := b5e f i v) (K := K) with h | ⟨h1, f', h2, h3⟩
   ·exact .inl h
   ·refine .inr ⟨by simp; omega, f', h2, fun t => ?_⟩
    rw [h3 t, a4g]
    by_cases ht : t = i
    ·subst ht
     rw [if_neg (by omega), if_pos rfl, if_pos (by simp), gZ]; rfl
    ·rw [if_neg ht]
     by_cases h4 : i + 1 ≤ t ∧ t < i + 1 + l.length
     ·rw [if_pos h4, if_pos (by simp; omega)]
      rw [show t - i = (t - (i + 1)) + 1 by omega]; rfl
     ·rw [if_neg h4, if_neg (by simp; omega)]
theorem wM {α : Type} {no : α} {k : Nat} : ∀ {args : List Value} {ps : List Tmp} {f : Fr} {l : List Value} {K : Fr → α}, FRel k f l → (∀ t ∈ ps, t < k) → args.length = ps.length →
 ∃ f', pD no args (ps.map kU) f K = K f' ∧ FRel k f' ((ps.zip args).foldl (fun t (p, v) => t.set p v) l)
 | [], [], f, l, K, hf, _, _ => ⟨f, rfl, hf⟩
 | v :: args, p :: ps, f, l, K, hf, hp, he => by
   have e : pD no (v :: args) ((p :: ps).map kU) f K = pZ v (kU p) f fun f => pD no args (ps.map kU) f K := rfl
   rw [e, tK]
   exact wM (hf.set (hp p (by simp)) v) (fun t ht => hp t (by simp [ht])) (by simpa using he)
 | [], _ :: _, _, _, _, _, _, he => by simp at he
 | _ :: _, [], _, _, _, _, _, he => by simp at he
theorem zZ (l : List Value) (n t : Nat) : get (l ++ List.replicate n undef) t = get l t := by
 rw [oM, oM]
 simp only [db]
 by_cases h : t < l.length
 ·rw [eJ h]
 ·rw [ey (by omega), ef (l := l) (by omega), gT]
  split <;> rfl
theorem a0C {T : LT} (hT : TOk P T) {ih : qJ} (hih : a3W P ih) {E : List LEnv} {p : Pth} {f : FuncId} {args : List Value} {H H1 : Heap} {v : Value} (hE : EOk P E H) (hp : p = kU f) (h : (nA T ih E p args H).Is v H1) :
 FnS P f args H (fun v' H' => v' = v ∧ H' = H1) ∧ LK H H1 := by
 unfold nA at h
 split at h
 case h_2 => exact absurd h Rs.ar
 rename_i g hg
 subst hp
 obtain ⟨fn, c, hfn, hb, hn, hps, hlow, hres⟩ := (hT f g hg).ex
 rw [hps] at h
 rw [fH] at h
 rcases a0d (no := Rs.no) (l := args) (i := 0) (m := fn.ntmps) (f := .e) (K := fun f => c2i g.res (ih E g.body f H)) with h1 | ⟨h1, f0, h2, h3⟩
 ·rw [h1] at h; exact absurd h Rs.ar
 ·rw [h2] at h
  have hf0 : FRel fn.ntmps f0 (args ++ List.replicate (fn.ntmps - args.length) undef) := by
   refine ⟨by simp; omega, fun t => ?_⟩
   rw [h3 t, zZ]
   by_cases ht : t < args.length
   ·rw [if_pos (by omega)]; rfl
   ·rw [if_neg (by omega), vF, oM, db, ef (by omega)]; try rfl
  cases hr : ih E g.body f0 H with
  | no => rw [hr] at h; exact absurd h Rs.ar
  | ok e f1 H2 =>
    rw [hr] at h
    obtain ⟨l1, hf1, hs, hk, _⟩ := hih E g.body fn.ntmps c f0 _ H e f1 H2 hlow hf0 hE hr
    have key : (e = .normal ∨ e = .ret) → (a8a g.res f1 H2).Is v H1 → FnS P f args H (fun v' H' => v' = v ∧ H' = H1) ∧ LK H H1 := by
     intro he hv
     obtain ⟨rfl, hv⟩ := b5j hf1.2 hres hv
     exact ⟨⟨fn, c, e, l1, H1, v, hfn, hb, hn, hs, he, hv, rfl, rfl⟩, hk⟩
    cases e with
    | normal => exact key (.inl rfl) h
    | ret => exact key (.inr rfl) h
    | exit id => exact absurd h Rs.ar
theorem b6a {T : LT} (hT : TOk P T) {ih : qJ} (hih : a3W P ih) {E : List LEnv} {p : Pth} {f : FuncId} {args : List Value} {H H1 : Heap} {v : Value} (hE : EOk P E H) (hp : p = kU f) (h : (b6A P T ih E p f args H).Is v H1) :
 (FnS P f args H (fun v' H' => v' = v ∧ H' = H1) ∨ qK P f args H = some (v, H1)) ∧ LK H H1 := by
 unfold b6A at h
 cases hg : a2K p T with
 | some g =>
   rw [hg] at h
   obtain ⟨a, b⟩ := a0C (H1 := H1) (v := v) hT hih hE hp (by unfold nA; rw [hg]; exact h)
   exact ⟨.inl a, b⟩
 | none =>
   rw [hg] at h
   have h : (c3u P f args H).Is v H1 := h
   unfold c3u at h
   split at h
   ·rename_i v2 H2 hx
    obtain ⟨rfl, rfl⟩ := Rs.aT h
    exact ⟨.inr hx, a5b hx⟩
   ·exact absurd h Rs.ar
theorem b0P {E : List LEnv} {L : Nat} {en : LEnv} (h : b7t E L = some en) : en ∈ E ∧ en.L = L := by
 induction E with
 | nil => cases h
 | cons e E ih =>
   have h : nZ (Nat.beq e.L L) (b7t E L) (some e) = some en := h
   rw [kT] at h
   split at h
   ·rename_i hh
    injection h with h
    subst h
    exact ⟨by simp, dU hh⟩
   ·obtain ⟨h1, h2⟩ := ih h
    exact ⟨dP _ h1, h2⟩
theorem a7w (e : Ex) : c1a e = rX e := by cases e <;> rfl
theorem b2W {ih : qJ} (hih : a3W P ih) {E : List LEnv} {L : Nat} {args : List Value} {H H1 : Heap} {v : Value} (hE : EOk P E H) (h : (b0y ih E L args H).Is v H1) : yM P L args H v H1 ∧ LK H H1 := by
 unfold b0y at h
 split at h
 case h_2 => exact absurd h Rs.ar
 rename_i en hen
 obtain ⟨hmem, rfl⟩ := b0P hen
 split at h
 case h_2 => exact absurd h Rs.ar
 rename_i p fn tmps ps a b d hg
 obtain ⟨hlen, h⟩ := lI h
 rw [zO] at hlen
 have hlen : ps.size = args.length := by simpa only [decide_eq_true_eq] using hlen
 obtain ⟨k, hps, hsz, hpp, hpk, hla, hlb⟩ := (hE en hmem).2 _ hg
 have hsz : tmps.length = k := by simpa using hsz
 rw [hps, fH] at h
 rcases a0d (no := Rs.no) (l := tmps) (i := 0) (m := k) (f := .e) (K := fun f => pD .no args en.pp f fun f => tC ih E en (ih E en.a f H)) with h1 | ⟨h1, f0, h2, h3⟩
 ·rw [h1] at h; exact absurd h Rs.ar
 rw [h2] at h
 have hf0 : FRel k f0 tmps := by
  refine ⟨hsz, fun t => ?_⟩
  rw [h3 t]
  by_cases ht : t < tmps.length
  ·rw [if_pos (by omega)]; rfl
  ·rw [if_neg (by omega), vF, oM, db, ef (by omega)]; try rfl
 rw [hpp] at h
 obtain ⟨f2, h4, hf2⟩ := wM (no := Rs.no) (args := args) (ps := ps.toList) (K := fun f => tC ih E en (ih E en.a f H)) hf0 hpk (by simpa using hlen.symm)
 have h : (pD Rs.no args (List.map kU ps.toList) f0 fun f => tC ih E en (ih E en.a f H)).Is v H1 := h
 rw [h4] at h
 cases hr1 : ih E en.a f2 H with
 | no => rw [hr1] at h; exact absurd h Rs.ar
 | ok e f3 H2 =>
   rw [hr1] at h
   obtain ⟨l3, hf3, hs1, hk1, _⟩ := hih E en.a k a f2 _ H e f3 H2 hla hf2 hE hr1
   cases e with
   | ret => exact absurd h Rs.ar
   | exit id => exact absurd h Rs.ar
   | normal =>
     have h : (a0K ih E en f3 H2).Is v H1 := h
     unfold a0K at h
     split at h
     case h_2 => exact absurd h Rs.ar
     rename_i p2 fn2 tmps2 ps2 a2 b2 d2 hg2
     rw [lZ] at h
     obtain ⟨r0, hr0, ea, eb, ep, et⟩ := hk1.2 en.L _ (hE en hmem).1 hg2
     rw [hg] at hr0
     injection hr0 with hr0
     injection hr0 with hr0
     subst hr0
     have ea' : a2 = a := ea
     have eb' : b2 = b := eb
     have ep' : ps2 = ps := ep
     have et' : tmps2 = ⟨tmps⟩ := et
     clear ea eb ep et
     subst ea' eb' ep' et'
     have hk2 : LK H2 (hset H2 en.L (.loop ⟨.busy, p2, fn2, ⟨tmps⟩, ps2, a2, b2, d2⟩)) := .loop hg2 ⟨rfl, rfl, rfl, rfl⟩
     cases hr2 : ih E en.b f3 (hset H2 en.L (.loop ⟨.busy, p2, fn2, ⟨tmps⟩, ps2, a2, b2, d2⟩)) with
     | no => rw [hr2] at h; exact absurd h Rs.ar
     | ok e f4 H3 =>
       rw [hr2] at h
       obtain ⟨l4, _, hs2, hk3, _⟩ := hih E en.b k b2 f3 _ _ e f4 H3 hlb hf3 (hE.ae (hk1.trans hk2)) hr2
       have h : (a2l en.L e H3).Is v H1 := h
       unfold a2l at h
       split at h
       case h_2 => exact absurd h Rs.ar
       rename_i st3 p3 fn3 tmps3 ps3 a3 b3 d3 hg3
       have fin : ∀ r', H1 = hset H3 en.L (.loop r') → (r' = { (⟨st3, p3, fn3, tmps3, ps3, a3, b3, d3⟩ : Loop) with state := if (rX e).isNone then .ready else .done, pending := rX e }) → v = .bool (rX e).isNone → yM P en.L args H v H1 ∧ LK H H1 := by
        intro r' hH hr' hv
        refine ⟨?_, hk1.trans (hk2.trans (hk3.trans (by rw [hH]; exact .loop hg3 (by rw [hr']; exact ⟨rfl, rfl, rfl, rfl⟩))))⟩
        have hW := a1s (P := P) (args := args) (K := fun v' H' => v' = v ∧ H' = H1) hg hlen rfl
         ⟨.normal, l3, H2, hs1, rfl, _, hg2, rfl, e, l4, H3, hs2, _, hg3, hv.symm, by rw [hH, hr']⟩
        obtain ⟨v', H', h1, rfl, rfl⟩ := hW
        exact h1
       split at h
       ·rename_i hj
        obtain ⟨rfl, rfl⟩ := Rs.aT h
        rw [a7w] at hj
        exact fin _ rfl (by rw [hj]; rfl) (by rw [hj]; rfl)
       ·rename_i c hj
        obtain ⟨rfl, rfl⟩ := Rs.aT h
        rw [a7w] at hj
        exact fin _ rfl (by rw [hj]; rfl) (by rw [hj]; rfl)
theorem a4O {T : LT} (hT : TOk P T) {ih : qJ} (hih : a3W P ih) {E : List LEnv} {H0 : Heap} (hE : EOk P E H0) : CallsOk P (a0a P T ih E) H0 where
 fn p f args H v H1 hk h hp := b6a hT hih (hE.ae hk) hp h
 rd L args H v H1 hk h := b2W hih (hE.ae hk) h
theorem c3D {α : Type} {f : Fr} {l : List Value} (hf : FAg f l) (i m : Nat) (K : List Value → α) : frL f ((List.range' i m).map kU) K = K ((List.range' i m).map (get l)) := by
 induction m generalizing i K with
 | zero => rfl
 | succ m ih =>
   have e : frL f ((List.range' i (m + 1)).map kU) K = oJ (oC (kU i) f) fun v => frL f ((List.range' (i + 1) m).map kU) fun l => K (v :: l) := by
    rw [gD]; rfl
   rw [e, mW, ih, hf i, gD]; rfl
theorem b9W {α : Type} {k : Nat} {f : Fr} {l : List Value} (hf : FRel k f l) (K : List Value → α) : frL f ((List.range k).map kU) K = K l := by
 rw [fH, c3D hf.2, ← fH]
 congr 1
 apply gx
 intro i
 rw [eN]
 by_cases hi : i < k
 ·rw [gK hi, dM, oM, db]
  have : i < l.length := by rw [hf.1]; exact hi
  simp [dq this]
 ·rw [ef (by simp; omega), ef (by rw [hf.1]; omega)]; rfl
theorem b3g {T : LT} (hT : TOk P T) {ih : qJ} (hih : a3W P ih) {E : List LEnv} {k : Nat} {g : Operand} {ps : Array Tmp} {assign body : Code} {A B : LCode} (hg : iQ g = true) (hps : ∀ t ∈ ps.toList, t < k) (ha : Low P k assign A) (hb : Low P k body B)
 {x1 x2 : Fr → Heap → Rc} {f : Fr} {l : List Value} {H : Heap} {e : Ex} {f1 : Fr} {H1 : Heap} (hf : FRel k f l) (hE : EOk P E H) (h : a8S T ih E (iW g) ((List.range k).map kU) (ps.toList.map kU) ps assign body A B x1 x2 f H = .ok e f1 H1) :
 f1 = f ∧ Sim P (.rangeFunc g ps assign body) l H e l H1 ∧ LK H H1 := by
 unfold a8S at h
 rw [jW hf.2] at h
 split at h
 case h_2 => cases h
 rename_i j xa xb hgv
 rw [kB, b9W hf, lZ, kB] at h
 unfold b1S at h
 rw [lO] at h
 generalize hH0 : H.cons (.loop ⟨.ready, none, 0, ⟨l⟩, ps, assign, body, 0⟩) = H0 at h
 have hl0 : (⟨.ready, none, 0, ⟨l⟩, ps, assign, body, 0⟩ : Loop) = b1C l ps assign body := rfl
 have hE0 : EOk P (⟨H.length, (List.range k).map kU, ps.toList.map kU, A, B⟩ :: E) H0 := by
  intro en hen
  rcases dR.1 hen with rfl | hen
  ·refine ⟨by rw [← hH0, length_cons]; exact Nat.lt_succ_self _, fun r hr => ?_⟩
   rw [← hH0, iO] at hr
   injection hr with hr
   injection hr with hr
   subst hr
   exact ⟨k, rfl, by simpa using hf.1, rfl, hps, ha, hb⟩
  ·exact (hE.ae (by rw [← hH0]; exact .cons _ _)) en hen
 have key : ∀ v H2, (nA T ih (⟨H.length, (List.range k).map kU, ps.toList.map kU, A, B⟩ :: E) (kU j) (a5c xa (.func (.yield H.length) #[] #[] :: xb)) H0).Is v H2 → uR H.length f H2 = .ok e f1 H1 → f1 = f ∧ Sim P (.rangeFunc g ps assign body) l H e l H1 ∧ LK H H1 := by
  intro v H2 hc hr
  obtain ⟨hfn, hk⟩ := a0C hT hih hE0 rfl hc
  have hargs : a5c xa (.func (.yield H.length) #[] #[] :: xb) = xa ++ [.func (.yield H.length) #[] #[]] ++ xb := by rw [yJ]; simp
  rw [hargs, ← hH0, hl0] at hfn
  have fin : ∀ (r : Loop) (H3 : Heap), iS H2 H.length = some (.loop r) → r.state ≠ .busy → H3 = hset H2 H.length (.loop { r with state := .exhausted }) → (r.pending = none → e = .normal) → (∀ c, r.pending = some c → (c = .ret ∧ e = .ret) ∨ ∃ id, c = .exit id ∧ e = .exit id) → f1 = f → H1 = H3 →
   f1 = f ∧ Sim P (.rangeFunc g ps assign body) l H e l H1 ∧ LK H H1 := by
   intro r H3 hrl hnb hH3 hp0 hp1 he1 he2
   have hw : Wp P (.rangeFunc g ps assign body) l H (fun e' l' H' => e' = e ∧ l' = l ∧ H' = H3) := by
    refine Wp.range (first := xa) (captured := xb) hg (by rw [hgv]) (hfn.mono ?_)
    rintro v' H' ⟨rfl, rfl⟩
    refine ⟨r, hrl, hnb, fun hp => ⟨(hp0 hp).symm, rfl, hH3.symm⟩, fun c hc => ?_⟩
    rcases hp1 c hc with ⟨rfl, he⟩ | ⟨id, rfl, he⟩
    ·exact Wp.ret ⟨he.symm, rfl, hH3.symm⟩
    ·exact Wp.exit ⟨he.symm, rfl, hH3.symm⟩
   obtain ⟨e', l', H', hs, rfl, rfl, rfl⟩ := hw
   refine ⟨he1, by rw [he2]; exact hs, ?_⟩
   rw [he2, hH3]
   have h1 : LK H H0 := by rw [← hH0]; exact .cons _ _
   exact h1.trans (hk.trans (.loop hrl ⟨rfl, rfl, rfl, rfl⟩))
  unfold uR at hr
  split at hr
  ·rename_i hg2
   rw [lZ] at hr
   injection hr with h1 h2 h3
   exact fin _ _ hg2 (by simp) rfl (fun _ => h1.symm) (fun c hc => by cases hc) h2.symm h3.symm
  ·rename_i hg2
   rw [lZ] at hr
   injection hr with h1 h2 h3
   exact fin _ _ hg2 (by simp) rfl (fun _ => h1.symm) (fun c hc => by cases hc) h2.symm h3.symm
  ·rename_i hg2
   rw [lZ] at hr
   injection hr with h1 h2 h3
   exact fin _ _ hg2 (by simp) rfl (fun hc => by cases hc) (fun c hc => by injection hc with hc; subst hc; exact .inl ⟨rfl, h1.symm⟩) h2.symm h3.symm
  ·rename_i hg2
   rw [lZ] at hr
   injection hr with h1 h2 h3
   exact fin _ _ hg2 (by simp) rfl (fun hc => by cases hc) (fun c hc => by injection hc with hc; subst hc; exact .inr ⟨_, rfl, h1.symm⟩) h2.symm h3.symm
  ·cases hr
 cases hc : nA T ih (⟨H.length, (List.range k).map kU, ps.toList.map kU, A, B⟩ :: E) (kU j) (a5c xa (.func (.yield H.length) #[] #[] :: xb)) H0 with
 | no => rw [hc] at h; cases h
 | ok v H2 => rw [hc] at h; exact key v H2 (.inl hc) h
 | th v H2 =>
   rw [hc] at h
   have h : nR H2 (fun H => uR _ f H) = .ok e f1 H1 := h
   rw [lZ] at h
   exact key v H2 (.inr hc) h
theorem c2v (jZ : P.follows .mixedOrders = true) {T : LT} (hT : TOk P T) : ∀ n, a3W P (exF P T n) := by
 intro n
 induction n with
 | zero => intro E C k c f l H e f1 H1 _ _ _ h; cases h
 | succ n ih =>
   intro E C k c f l H e f1 H1 hlow hf hE h
   have h : b1q P T (exF P T n) E C f H = .ok e f1 H1 := h
   have noloop : ∀ {c : Code}, (∀ b, c ≠ .loop b) → ∀ {l1 : List Value}, ∀ b, c = .loop b → ∃ n, Rounds P b n l H e l1 H1 := fun hne _ b hb => absurd hb (hne b)
   cases hlow with
   | bad => cases h
   | skip =>
     injection h with h1 h2 h3; subst h1 h2 h3
     exact ⟨l, hf, .skip l H, .refl H, noloop (by intro b h; cases h)⟩
   | label t =>
     injection h with h1 h2 h3; subst h1 h2 h3
     exact ⟨l, hf, .label t l H, .refl H, noloop (by intro b h; cases h)⟩
   | exit id =>
     injection h with h1 h2 h3; subst h1 h2 h3
     exact ⟨l, hf, .exit id l H, .refl H, noloop (by intro b h; cases h)⟩
   | ret =>
     injection h with h1 h2 h3; subst h1 h2 h3
     exact ⟨l, hf, .ret l H, .refl H, noloop (by intro b h; cases h)⟩
   | @reg id ops d lo hlo hd =>
     have h : c5H (zX P (a0a P T (exF P T n) E) lo f H) = .ok e f1 H1 := h
     cases hr : zX P (a0a P T (exF P T n) E) lo f H with
     | no => rw [hr] at h; cases h
     | ok f2 H2 =>
       rw [hr] at h
       injection h with h1 h2 h3; subst h1 h2 h3
       obtain ⟨l1, hf1, hops, hk⟩ := b9D (a4O hT ih hE) hlo (i := 0) rfl hf (.refl H) hr
       have hops : OpsR P ops (List.range ops.size) l H l1 H2 := by rw [fH]; simpa using hops
       refine ⟨l1, hf1, ?_, hk, noloop (by intro b h; cases h)⟩
       cases d with
       | false => exact .region hops
       | true => exact .bV jZ (hd rfl) hops
   | drw hlo ht hl =>
     obtain ⟨l1, rfl, hf1, hs, hk⟩ := c0b jZ (a4O hT ih hE) hlo ht hl hf h
     exact ⟨l1, hf1, hs, hk, noloop (by intro b h; cases h)⟩
   | @seq a b A B ha hb =>
     have h : b8H (exF P T n) E B (exF P T n E A f H) = .ok e f1 H1 := h
     cases hr : exF P T n E A f H with
     | no => rw [hr] at h; cases h
     | ok e2 f2 H2 =>
       rw [hr] at h
       obtain ⟨l2, hf2, hs, hk, _⟩ := ih E A k a f l H e2 f2 H2 ha hf hE hr
       cases e2 with
       | normal =>
         obtain ⟨l1, hf1, hs1, hk1, _⟩ := ih E B k b f2 l2 H2 e f1 H1 hb hf2 (hE.ae hk) h
         exact ⟨l1, hf1, .seq hs hs1, hk.trans hk1, noloop (by intro b h; cases h)⟩
       | ret =>
         injection h with h1 h2 h3; subst h1 h2 h3
         exact ⟨l2, hf2, .seq' hs (by intro h; cases h), hk, noloop (by intro b h; cases h)⟩
       | exit id =>
         injection h with h1 h2 h3; subst h1 h2 h3
         exact ⟨l2, hf2, .seq' hs (by intro h; cases h), hk, noloop (by intro b h; cases h)⟩
   | @cond c x y X Y hc hx hy =>
     have h : b7d (exF P T n) E (iW c) X Y (b1q P T (exF P T n) E X) (b1q P T (exF P T n) E Y) f H = .ok e f1 H1 := h
     unfold b7d at h
     rw [jW hf.2] at h
     split at h
     ·rename_i t ht
      cases t with
      | true =>
        obtain ⟨l1, hf1, hs, hk, _⟩ := ih E X k x f l H e f1 H1 hx hf hE h
        exact ⟨l1, hf1, .cond ht hc hs, hk, noloop (by intro b h; cases h)⟩
      | false =>
        obtain ⟨l1, hf1, hs, hk, _⟩ := ih E Y k y f l H e f1 H1 hy hf hE h
        exact ⟨l1, hf1, .cond ht hc hs, hk, noloop (by intro b h; cases h)⟩
     ·cases h
   | @block id b B hb =>
     have h : c5X id (exF P T n E B f H) = .ok e f1 H1 := h
     cases hr : exF P T n E B f H with
     | no => rw [hr] at h; cases h
     | ok e2 f2 H2 =>
       rw [hr] at h
       obtain ⟨l2, hf2, hs, hk, _⟩ := ih E B k b f l H e2 f2 H2 hb hf hE hr
       have hs' : Sim P (.block id b) l H (e2.out id) l2 H2 := .block hs
       cases e2 with
       | normal => injection h with h1 h2 h3; subst h1 h2 h3; exact ⟨l2, hf2, hs', hk, noloop (by intro b h; cases h)⟩
       | ret => injection h with h1 h2 h3; subst h1 h2 h3; exact ⟨l2, hf2, hs', hk, noloop (by intro b h; cases h)⟩
       | exit i =>
         have h : Rc.ok (Bool.rec (motive := fun _ => Ex) (.exit i) .normal (Nat.beq i id)) f2 H2 = .ok e f1 H1 := h
         injection h with h1 h2 h3; subst h2 h3
         have : (Ex.exit i).out id = e := by
          rw [← h1]
          by_cases hi : i = id
          ·subst hi; simp [Ex.out]
          ·have : Nat.beq i id = false := fV.2 fun e => hi (dU e)
           simp [Ex.out, hi, this]
         rw [this] at hs'
         exact ⟨l2, hf2, hs', hk, noloop (by intro b h; cases h)⟩
   | @loop b B hb =>
     have h : b8H (exF P T n) E (.loop B) (exF P T n E B f H) = .ok e f1 H1 := h
     cases hr : exF P T n E B f H with
     | no => rw [hr] at h; cases h
     | ok e2 f2 H2 =>
       rw [hr] at h
       obtain ⟨l2, hf2, hs, hk, _⟩ := ih E B k b f l H e2 f2 H2 hb hf hE hr
       have last : e2 ≠ .normal → e2 = e → f2 = f1 → H2 = H1 → ∃ l1, FRel k f1 l1 ∧ Sim P (.loop b) l H e l1 H1 ∧ LK H H1 ∧ ∀ b', Code.loop b = .loop b' → ∃ n, Rounds P b' n l H e l1 H1 := by
        intro hne h1 h2 h3
        subst h1 h2 h3
        have hr : Rounds P b 1 l H e2 l2 H2 := .last hs hne
        exact ⟨l2, hf2, .loop hr, hk, fun b' hb' => by injection hb' with hb'; subst hb'; exact ⟨1, hr⟩⟩
       cases e2 with
       | normal =>
         obtain ⟨l1, hf1, hs1, hk1, hro⟩ := ih E (.loop B) k (.loop b) f2 l2 H2 e f1 H1 (.loop hb) hf2 (hE.ae hk) h
         obtain ⟨m, hm⟩ := hro b rfl
         have hr : Rounds P b (m + 1) l H e l1 H1 := .more hs hm
         exact ⟨l1, hf1, .loop hr, hk.trans hk1, fun b' hb' => by injection hb' with hb'; subst hb'; exact ⟨_, hr⟩⟩
       | ret => injection h with h1 h2 h3; exact last (by intro h; cases h) h1 h2 h3
       | exit id => injection h with h1 h2 h3; exact last (by intro h; cases h) h1 h2 h3
   | range hg hps ha hb =>
     obtain ⟨rfl, hs, hk⟩ := b3g (x1 := fun _ _ => .no) (x2 := fun _ _ => .no) hT ih hg hps ha hb hf hE h
     exact ⟨l, hf, hs, hk, noloop (by intro b h; cases h)⟩
theorem yD {α : Type} (v : LFunc) (p : Pth) (f : LT) (K : LT → α) : sD v p f K = K (sD v p f fun f => f) := by
 induction p generalizing f α with
 | z => cases f <;> rfl
 | l p ih =>
   cases f with
   | e =>
     show sD v p .e (fun l => K (.n none l .e)) = K (sD v p .e fun l => .n none l .e)
     rw [ih, ih (K := fun l => LT.n none l .e)]
   | n w l r =>
     show sD v p l (fun l => K (.n w l r)) = K (sD v p l fun l => .n w l r)
     rw [ih, ih (K := fun l => LT.n w l r)]
 | r p ih =>
   cases f with
   | e =>
     show sD v p .e (fun l => K (.n none .e l)) = K (sD v p .e fun l => .n none .e l)
     rw [ih, ih (K := fun l => LT.n none .e l)]
   | n w l r =>
     show sD v p r (fun r => K (.n w l r)) = K (sD v p r fun r => .n w l r)
     rw [ih, ih (K := fun r => LT.n w l r)]
theorem xQ (p : Pth) : a2K p .e = none := by cases p <;> rfl
theorem b3B (v : LFunc) (p q : Pth) (f : LT) {g : LFunc} (h : a2K q (sD v p f fun f => f) = some g) : (q = p ∧ g = v) ∨ a2K q f = some g := by
 induction p generalizing f q with
 | z =>
   cases q with
   | z => left; refine ⟨rfl, ?_⟩; cases f <;> (injection h with h; exact h.symm)
   | l q => right; cases f with
     | e => have h : a2K q .e = some g := h
            rw [xQ] at h; cases h
     | n => exact h
   | r q => right; cases f with
     | e => have h : a2K q .e = some g := h
            rw [xQ] at h; cases h
     | n => exact h
 | l p ih =>
   have h1 : ∀ f, sD v (.l p) f (fun f => f) = match f with | .e => .n none (sD v p .e fun f => f) .e | .n w l r => .n w (sD v p l fun f => f) r := fun f => by
    cases f with
    | e => exact yD v p .e fun l => LT.n none l .e
    | n w l r => exact yD v p l fun l => LT.n w l r
   rw [h1] at h
   cases q with
   | z => right; cases f with
     | e => exact h
     | n => exact h
   | r q => right; cases f with
     | e => have h : a2K q .e = some g := h
            rw [xQ] at h; cases h
     | n => exact h
   | l q =>
     cases f with
     | e =>
       rcases ih q .e h with ⟨rfl, hq⟩ | h
       ·exact .inl ⟨rfl, hq⟩
       ·rw [xQ] at h; cases h
     | n w l r =>
       rcases ih q l h with ⟨rfl, hq⟩ | h
       ·exact .inl ⟨rfl, hq⟩
       ·exact .inr h
 | r p ih =>
   have h1 : ∀ f, sD v (.r p) f (fun f => f) = match f with | .e => .n none .e (sD v p .e fun f => f) | .n w l r => .n w l (sD v p r fun f => f) := fun f => by
    cases f with
    | e => exact yD v p .e fun l => LT.n none .e l
    | n w l r => exact yD v p r fun r => LT.n w l r
   rw [h1] at h
   cases q with
   | z => right; cases f with
     | e => exact h
     | n => exact h
   | l q => right; cases f with
     | e => have h : a2K q .e = some g := h
            rw [xQ] at h; cases h
     | n => exact h
   | r q =>
     cases f with
     | e =>
       rcases ih q .e h with ⟨rfl, hq⟩ | h
       ·exact .inl ⟨rfl, hq⟩
       ·rw [xQ] at h; cases h
     | n w l r =>
       rcases ih q r h with ⟨rfl, hq⟩ | h
       ·exact .inl ⟨rfl, hq⟩
       ·exact .inr h
theorem b2E {α : Type} (f : FuncId) (no : α) (K : LFunc → α) : (∃ g, FuncOk P f g ∧ a2j P f no K = K g) ∨ a2j P f no K = no := by
 unfold a2j
 split
 ·rename_i fn hfn
  split
  ·rename_i c hb
   rw [kT]
   split
   ·exact .inr rfl
   ·rename_i hn
    rcases b7e (P := P) fn.results.toList (fun res => b4f fn.ntmps fun ps => nH P fn.ntmps c fun b => K ⟨ps, b, res⟩) no with ⟨res, hres, h1⟩ | h1
    ·rw [h1, b2o]
     obtain ⟨C, hC, h2⟩ := b3p (P := P) fn.ntmps c (fun b => K ⟨(List.range fn.ntmps).map kU, b, res⟩)
     exact .inl ⟨⟨_, C, res⟩, ⟨fn, c, hfn, hb, by simpa using hn, rfl, hC, hres⟩, h2⟩
    ·exact .inr h1
  ·exact .inr rfl
 ·exact .inr rfl
theorem b5R {α : Type} (fs : List FuncId) (T : LT) (hT : TOk P T) (K : LT → α) : ∃ T', TOk P T' ∧ uI P fs T K = K T' := by
 induction fs generalizing T with
 | nil => exact ⟨T, hT, rfl⟩
 | cons f fs ih =>
   have e : uI P (f :: fs) T K = a2j P f (uI P fs T K) fun g => lP (kU f) fun p => sD g p T fun T => uI P fs T K := rfl
   rw [e]
   rcases b2E (P := P) f (uI P fs T K) (fun g => lP (kU f) fun p => sD g p T fun T => uI P fs T K) with ⟨g, hg, h⟩ | h
   ·rw [h, lO, yD]
    refine ih _ fun f' g' h' => ?_
    rcases b3B g (kU f) (kU f') T h' with ⟨he, rfl⟩ | h'
    ·rw [b2m he]; exact hg
    ·exact hT f' g' h'
   ·rw [h]; exact ih T hT
end Go.Ds
namespace Go.Ds
open Go.Proofs Go.Proofs.Tryz
def t64 : List Nat := [0, 1, 56, 2, 57, 49, 28, 3, 61, 58, 42, 50, 38, 29, 17, 4, 62, 47, 59, 36, 45, 43, 51, 22, 53, 39, 33, 30, 24, 18, 12, 5, 63, 55, 48, 27, 60, 41, 37, 16, 46, 35, 44, 21, 52, 32, 23, 11, 54, 26, 40, 15, 34, 20, 31, 10, 25, 14, 19, 9, 13, 8, 7, 6]
def t32 : List Nat := [0, 1, 28, 2, 29, 14, 24, 3, 30, 22, 20, 15, 25, 17, 4, 8, 31, 27, 13, 23, 21, 19, 16, 7, 26, 12, 18, 6, 11, 5, 10, 9]
noncomputable def gH : Heap := ((((((Heap.nil.cons (.cells (t64.map fun (n : Nat) => Value.int .u8 (.ofNat n)) 5 false 0 1)).cons (.cells [] 3 false 0 1)).cons (.cells [] 275 false 0 1)).cons (.cells [] 275 false 0 1)).cons (.cells ([1, 10, 100, 1000, 10000, 100000, 1000000, 10000000, 100000000, 1000000000, 10000000000, 100000000000, 1000000000000, 10000000000000, 100000000000000, 1000000000000000, 10000000000000000, 100000000000000000, 1000000000000000000, 10000000000000000000].map fun (n : Nat) => Value.int .u64 (.ofNat n)) 39 false 0 1)).cons (.cells (t32.map fun (n : Nat) => Value.int .u8 (.ofNat n)) 5 false 0 1))
theorem c5n : prog.follows .mixedOrders = true := by kernel_rfl
def b3x : Nat → Nat → List UInt8 → List UInt8
 | 0, _, acc => acc
 | f + 1, n, acc => if n < 10 then (48 + n).toUInt8 :: acc else b3x f (n / 10) ((48 + n % 10).toUInt8 :: acc)
def pH (n : Nat) : ByteArray := ⟨(b3x 100 n []).toArray⟩
theorem a5B {b : ByteArray} {n : Nat} (h : b.data.toList = b3x 100 n []) : b = pH n := by
 cases b with | mk d => cases d with | mk l => simp only at h; subst h; rfl
def b1z (r : Rs) (n : Nat) : Bool := match r with
 | .ok (.string b) _ => decide (b.data.toList = b3x 100 n [])
 | .th (.string b) _ => decide (b.data.toList = b3x 100 n [])
 | _ => false
def b9p (v : Value) (n : Nat) : Bool := match v with
 | .tuple vs => match vs.toList with
   | [.string b, .int .i64 m] => decide (m = 0) && decide (b.data.toList = b3x 100 n [])
   | _ => false
 | _ => false
def b4H (r : Rs) (n : Nat) : Bool := match r with
 | .ok v _ => b9p v n
 | .th v _ => b9p v n
 | _ => false
def b7O (r : Rs) (n : Int) : Bool := match r with
 | .ok (.int .i64 m) _ => decide (m = n)
 | .th (.int .i64 m) _ => decide (m = n)
 | _ => false
noncomputable def c0Y (ps : List Nat) : Bool := uI prog [133, 155, 136, 188, 213, 225, 232, 233, 234, 235, 241, 242, 243, 244, 248] .e fun T => ps.all fun x => b1z (nA T (exF prog T 4000) [] (kU 155) [.int .i64 x] gH) x
def fsP : List Nat := [133, 223, 209, 211, 168, 154, 136, 222, 237, 201, 202, 184, 185, 186, 187, 191, 236, 245, 206, 207, 208, 210, 212, 196, 214, 220, 221, 224, 217, 232, 233, 234, 235, 241, 242, 243, 244, 248]
noncomputable def vG (ps : List Nat) : Bool := uI prog fsP .e fun T => ps.all fun x => b4H (nA T (exF prog T 4000) [] (kU 154) [.string (pH x), .int .i64 24] gH) (x ^ 24)
def fsM : List Nat := [133, 223, 209, 211, 168, 155, 156, 136, 188, 222, 237, 201, 202, 184, 185, 186, 187, 189, 191, 213, 236, 245, 206, 207, 208, 210, 212, 196, 214, 225, 220, 221, 224, 217, 232, 233, 234, 235, 241, 242, 243, 244, 248]
noncomputable def lW (ps : List (Nat × Nat)) : Bool := uI prog fsM .e fun T => ps.all fun x => b1z (nA T (exF prog T 4000) [] (kU 156) [.string (pH x.1), .string (pH x.2)] gH) (x.1 * x.2)
def sK (t : Nat × Nat) : List (Nat × Nat) := (t.1 ^ 24, 2) :: (List.range t.2).map fun k => (2 * t.1 ^ 24 * 4 ^ k, 4)
def a7q (t : Nat × Nat × Nat) : List (Nat × Nat) := (List.range (t.2.2 + 1)).map fun k => (t.1 ^ 24, 2 * t.2.1 ^ 24 * 4 ^ k)
def b6P (a b : Nat) : Int := if a < b then -1 else if b < a then 1 else 0
noncomputable def vU (ps : List (Nat × Nat)) : Bool := uI prog [157, 190, 191, 192, 196, 214, 215, 217, 226] .e fun T => ps.all fun x => b7O (nA T (exF prog T 4000) [] (kU 157) [.string (pH x.1), .string (pH x.2)] gH) (b6P x.1 x.2)
end Go.Ds
namespace Go.Ds
open Go.RowKit Go.Proofs
section
variable {P : Program} {ρ : Rho} {H : Heap} {w : World}
theorem a4u {name : String} {g : Nat} {k : IntKind} {zs : List Int} (hg : P.globalNamed name = some g) (ht : Lib.TabIs P w name k zs) : ∃ t fr, w.heap[g]? = some (.cells (zs.map fun z => Value.int k z).toArray t fr) := by
 unfold Lib.TabIs World.var? at ht
 rw [hg, cX] at ht
 split at ht
 ·rename_i cs t fr hb
  obtain rfl := cW ht
  exact ⟨t, fr, hb⟩
 ·cases ht
theorem InW.cN (h : InW P ρ H w) {name : String} {g : Nat} {k : IntKind} {zs : List Int} {ty : TypeId} (hg : P.globalNamed name = some g) (ht : Lib.TabIs P w name k zs) (hgH : g = H.length) (hty : iE P ty = some 1) :
 InW P (ρ.put H.length (zs.map fun z => Value.int k z).length ⟨g, 0, zs.length, 1⟩) (H.cons (.cells (zs.map fun z => Value.int k z) ty false 0 1)) w := by
 obtain ⟨t, fr, hb⟩ := a4u hg ht
 refine (h.row ⟨g, 0, zs.length, 1⟩ hb (ty := ty) hty (by simp) (zs.map fun z => Value.int k z) 1 (fun _ => ⟨hgH, rfl⟩) (by simp) fun i c hi _ hc => ⟨c, ?_, ?_⟩).1
 ·have : (⟨g, 0, zs.length, 1⟩ : Place).at i = i := by simp [Place.at]
  rw [this]
  simpa using hc
 ·rw [eN] at hc
  obtain ⟨z, _, rfl⟩ := dg.1 hc
  exact .c0 (.flat rfl)
end
theorem c4L : ∀ A b, iS gH A = some b → ∃ cs ty lo, b = .cells cs ty false lo 1 ∧ kM cs = true := by
 intro A b h
 unfold gH at h
 have hn : ∀ (H : Heap) (c : Blk), iS (H.cons c) A = some b → (A = H.length ∧ b = c) ∨ iS H A = some b := fun H c h => by
  by_cases he : A = H.length
  ·subst he; rw [iO] at h; exact .inl ⟨rfl, (cW h).symm⟩
  ·have hA : A < (H.cons c).length := jO h
   rw [length_cons] at hA
   rw [jP _ (by omega)] at h
   exact .inr h
 rcases hn _ _ h with ⟨_, rfl⟩ | h
 ·exact ⟨_, _, _, rfl, by kernel_rfl⟩
 rcases hn _ _ h with ⟨_, rfl⟩ | h
 ·exact ⟨_, _, _, rfl, by kernel_rfl⟩
 rcases hn _ _ h with ⟨_, rfl⟩ | h
 ·exact ⟨_, _, _, rfl, by kernel_rfl⟩
 rcases hn _ _ h with ⟨_, rfl⟩ | h
 ·exact ⟨_, _, _, rfl, by kernel_rfl⟩
 rcases hn _ _ h with ⟨_, rfl⟩ | h
 ·exact ⟨_, _, _, rfl, by kernel_rfl⟩
 rcases hn _ _ h with ⟨_, rfl⟩ | h
 ·exact ⟨_, _, _, rfl, by kernel_rfl⟩
 ·have : A < 0 := jO h
  omega
theorem ExtW.glob {ρ ρ' : Rho} {H' : Heap} (h : ExtW ρ gH ρ' H') : Glob gH H' := ⟨h.len, fun A hA => h.old A hA, c4L⟩
def p10 : List Int := [1, 10, 100, 1000, 10000, 100000, 1000000, 10000000, 100000000, 1000000000, 10000000000, 100000000000, 1000000000000, 10000000000000, 100000000000000, 1000000000000000, 10000000000000000, 100000000000000000, 1000000000000000000, 10000000000000000000]
theorem g64 : Tryz.prog.globalNamed "math/bits.deBruijn64tab" = some 0 := by kernel_rfl
theorem rN : Tryz.prog.globalNamed "internal/strconv.uint64pow10" = some 4 := by kernel_rfl
theorem g32 : Tryz.prog.globalNamed "math/bits.deBruijn32tab" = some 5 := by kernel_rfl
theorem b9C {w : World} (h64 : Lib.TabIs Tryz.prog w "math/bits.deBruijn64tab" .u8 (t64.map Int.ofNat)) (h10 : Lib.TabIs Tryz.prog w "internal/strconv.uint64pow10" .u64 p10)
 (h32 : Lib.TabIs Tryz.prog w "math/bits.deBruijn32tab" .u8 (t32.map Int.ofNat)) (h1001 : ∃ cs t fr, w.heap[1]? = some (.cells cs t fr)) (h1002 : ∃ cs t fr, w.heap[2]? = some (.cells cs t fr)) (h1003 : ∃ cs t fr, w.heap[3]? = some (.cells cs t fr)) : ∃ ρ, InW Tryz.prog ρ gH w := by
 have a0 := (InW.none (P := Tryz.prog) w).cN g64 h64 (ty := 5) rfl (by kernel_rfl)
 obtain ⟨cs1, t1, fr1, hb1⟩ := h1001
 have a1 := (a0.row ⟨1, 0, cs1.size, 1⟩ hb1 (ty := 3) (by kernel_rfl) rfl [] 1 (fun _ => ⟨rfl, rfl⟩) (by simp) (fun i c hi => by simp at hi)).1
 obtain ⟨cs2, t2, fr2, hb2⟩ := h1002
 have a2 := (a1.row ⟨2, 0, cs2.size, 1⟩ hb2 (ty := 275) (by kernel_rfl) rfl [] 1 (fun _ => ⟨rfl, rfl⟩) (by simp) (fun i c hi => by simp at hi)).1
 obtain ⟨cs3, t3, fr3, hb3⟩ := h1003
 have a3 := (a2.row ⟨3, 0, cs3.size, 1⟩ hb3 (ty := 275) (by kernel_rfl) rfl [] 1 (fun _ => ⟨rfl, rfl⟩) (by simp) (fun i c hi => by simp at hi)).1
 have a4 := a3.cN rN h10 (ty := 39) rfl (by kernel_rfl)
 have a5 := a4.cN g32 h32 (ty := 5) rfl (by kernel_rfl)
 exact ⟨_, a5⟩
end Go.Ds
namespace Go.Ds
noncomputable section
variable {P : Program} {H0 : Base} {H : Heap} {os : List Ob} {κ β : Type} [DecidableEq κ] {enc : κ → Value} {f : β → Value} {t : TypeId} {z : Value}
structure MapK (P : Program) (t : TypeId) {κ : Type} [DecidableEq κ] (enc : κ → Value) (z : Value) : Prop where
 ex : ∃ kt et, zJ P t = some (kt, et) ∧ jA P et = some z ∧ jC z = true ∧ (∀ b k, yH P b kt (enc k) = true) ∧
  (∀ k (es : List MapEntry) (ks : List κ), es.map (·.key) = ks.map enc → rZ P kt (enc k) es = some (ks.findIdx? fun x => decide (x = k))) ∧ ∀ k, Instr.sameBits 10000 (enc k) (enc k) = true
def kcs (enc : κ → Value) (f : β → Value) (kvs : List (κ × β)) : List Value := kvs.flatMap fun p => [enc p.1, f p.2]
def a2V (kvs : List (κ × β)) (k : κ) : Option β := (kvs.find? fun p => decide (p.1 = k)).map (·.2)
def a6g (kvs : List (κ × β)) (k : κ) (v : β) : List (κ × β) := match kvs.findIdx? (fun p => decide (p.1 = k)) with
 | some j => kvs.set j (k, v)
 | none => kvs ++ [(k, v)]
theorem a5x : ∀ (es : List MapEntry) (kvs : List (κ × β)), kcs enc f kvs = mcs es → es.map (·.key) = kvs.map (fun p => enc p.1) ∧ es.map (·.val) = kvs.map (fun p => f p.2)
 | [], [], _ => ⟨rfl, rfl⟩
 | [], p :: kvs, h => by simp [kcs, mcs] at h
 | e :: es, [], h => by simp [kcs, mcs] at h
 | e :: es, p :: kvs, h => by
   simp only [kcs, mcs, dz, ig, fq, fU] at h
   obtain ⟨h1, h2, h3⟩ := h
   obtain ⟨h4, h5⟩ := a5x es kvs h3
   simp only [eG]
   exact ⟨by rw [h4, h1], by rw [h5, h2]⟩
theorem a9j : ∀ (es : List MapEntry) (kvs : List (κ × β)), es.map (·.key) = kvs.map (fun p => enc p.1) → es.map (·.val) = kvs.map (fun p => f p.2) → kcs enc f kvs = mcs es
 | [], [], _, _ => rfl
 | [], p :: kvs, h, _ => by simp at h
 | e :: es, [], h, _ => by simp at h
 | e :: es, p :: kvs, h, h' => by
   simp only [eG, fU] at h h'
   have := a9j es kvs h.2 h'.2
   simp only [kcs, mcs, dz] at this ⊢
   rw [this, h.1, h'.1]
theorem St.bW (hS : St P H0 H os) (i : Nat) {A : Nat} {cs : List Value} (ho : os[i]? = some ⟨.map (some A), 0, cs⟩) : ∃ es ck ver, iS H A = some (.map es ck ver) ∧ cs = mcs es ∧ Stamps es ck := by
 have := hS.own _ (dO ho)
 unfold OwnAt at this
 rw [if_pos rfl] at this
 rcases this with ⟨_, _, _, _, _, _, h⟩ | ⟨A', es, ck, ver, h1, h2, h3, h4⟩
 ·cases h
 ·simp only [Value.map.injEq, dE] at h3
  subst h3
  exact ⟨es, ck, ver, h1, h2, h4⟩
theorem b2h (kvs : List (κ × β)) (k : κ) : (∃ j x, (kvs.map (·.1)).findIdx? (fun x => decide (x = k)) = some j ∧ kvs[j]? = some x ∧ kvs.find? (fun p => decide (p.1 = k)) = some x) ∨ ((kvs.map (·.1)).findIdx? (fun x => decide (x = k)) = none ∧ kvs.find? (fun p => decide (p.1 = k)) = none) := by
 induction kvs with
 | nil => exact .inr ⟨rfl, rfl⟩
 | cons p kvs ih =>
   by_cases h : p.1 = k
   ·exact .inl ⟨0, p, by simp [ff, h], rfl, by simp [h]⟩
   ·rcases ih with ⟨j, x, h1, h2, h3⟩ | ⟨h1, h2⟩
    ·exact .inl ⟨j + 1, x, by simp [ff, h, h1], by simpa using h2, by simp [h, h3]⟩
    ·exact .inr ⟨by simp [ff, h, h1], by simp [h, h2]⟩
theorem St.cU (hS : St P H0 H os) (i : Nat) {A : Nat} {kvs : List (κ × β)} (ho : os[i]? = some ⟨.map (some A), 0, kcs enc f kvs⟩) (hk : MapK P t enc z) (hf : ∀ b, nD (f b) = true) (c : Bool) (k : κ) :
 pO P H t (.map (some A)) (enc k) c = some (pairV c (((a2V kvs k).map f).getD z) (a2V kvs k).isSome) := by
 obtain ⟨kt, et, h1, h2, h3, h4, h5, h6⟩ := hk.ex
 obtain ⟨es, ck, ver, h7, h8, _⟩ := hS.bW i ho
 obtain ⟨h9, h10⟩ := a5x es kvs h8
 have hi := h5 k es (kvs.map (·.1)) (by rw [h9]; simp [gY])
 simp only [pO, h1, cX, a2X, h7, h4, if_true, hi, a2V]
 rcases b2h kvs k with ⟨j, x, e1, e2, e3⟩ | ⟨e1, e3⟩
 ·have hj : es[j]?.map (·.val) = some (f x.2) := by
   rw [← eN, h10, eN, e2]; rfl
  cases he : es[j]? with
  | none => rw [he] at hj; simp at hj
  | some e =>
    rw [he] at hj
    simp only [dM, dE] at hj
    simp only [e1, he, cX, hj, hf, if_true, e3, dM, fi, Option.isSome_some]
 ·simp only [e1, e3, Option.map_none, Option.getD_none, Option.isSome_none, h2, cX, h3, if_true]
def a6z (P : Program) (H : Heap) (t : TypeId) (x k : Value) (c : Bool) (K : Value → Prop) (_k : Keep K := ⟨⟩) : Prop := ∃ v, pO P H t x k c = some v ∧ K v
theorem a8F {t : TypeId} {x x' k k' : Value} {c : Bool} {K : Value → Prop} (h : x = x') (h2 : k = k') : a6z P H t x k c K = a6z P H t x' k' c K := by rw [h, h2]
attribute [congr] a8F
theorem b0n (d ty pos af g) (t : TypeId) (x k : Operand) (c : Bool) (l : List Value) (K : Value → Heap → Prop) :
 mA P ⟨d, .lookup t x k c, ty, pos, af, g⟩ l H K = jN x l fun x => jN k l fun k => a6z P H t x k c fun v => K v H := by
 have h2 : kD ((pO P H t (ev l x) (ev l k) c).map fun v => (v, H)) K = ∃ v, pO P H t (ev l x) (ev l k) c = some v ∧ K v H := by
  cases pO P H t (ev l x) (ev l k) c <;> simp [kD]
 simp only [mA, opD, jN, Op.operands, a6z, h2]
 simp [and_assoc]
theorem St.bN (hS : St P H0 H os) (i : Nat) {A : Nat} {kvs : List (κ × β)} (ho : os[i]? = some ⟨.map (some A), 0, kcs enc f kvs⟩) (hk : MapK P t enc z) (hf : ∀ b, nD (f b) = true) {c : Bool} {k : κ} {K : Value → Prop}
 (h : K (pairV c (((a2V kvs k).map f).getD z) (a2V kvs k).isSome)) : a6z P H t (.map (some A)) (enc k) c K := ⟨_, hS.cU i ho hk hf c k, h⟩
def a5k (P : Program) (H : Heap) (t : TypeId) (K : Value → Heap → Prop) (_k : Keep K := ⟨⟩) : Prop := ∃ v H1, pW P H t none = some (v, H1) ∧ K v H1
theorem a6Q (d ty pos af g) (t : TypeId) (l : List Value) (K : Value → Heap → Prop) : mA P ⟨d, .makeMap t none, ty, pos, af, g⟩ l H K = a5k P H t K := by
 simp only [mA, opD, Op.operands, a5k, mY]
 simp
theorem St.bS (hS : St P H0 H os) (hk : MapK P t enc z) {K : Value → Heap → Prop} (h : ∀ A H1, St P H0 H1 (os ++ [⟨.map (some A), 0, []⟩]) → K (.map (some A)) H1) : a5k P H t K := by
 obtain ⟨kt, et, h1, _⟩ := hk.ex
 refine ⟨.map (some H.length), H.cons (.map [] 0 0), by simp [pW, h1], h _ _ (hS.add ?_ ?_ ?_ ?_)⟩
 ·unfold OwnAt
  rw [if_pos rfl]
  exact .inr ⟨_, [], 0, 0, iO H _, rfl, rfl, .nil 0⟩
 ·simp [oN]
 ·exact fun B hB => jP _ hB
 ·intro B hB
  simp [kH] at hB
  omega
def b5r (P : Program) (H : Heap) (t : TypeId) (m k v : Value) (K : Heap → Prop) (_k : Keep K := ⟨⟩) : Prop := ∃ H1, a1x P H t m k v = some H1 ∧ K H1
theorem a9Z {t : TypeId} {m m' k k' v v' : Value} {K : Heap → Prop} (h : m = m') (h2 : k = k') (h3 : v = v') : b5r P H t m k v K = b5r P H t m' k' v' K := by rw [h, h2, h3]
attribute [congr] a9Z
theorem a3B (d ty pos af g) (t : TypeId) (m k v : Operand) (l : List Value) (K : Value → Heap → Prop) :
 mA P ⟨d, .mapUpdate t m k v, ty, pos, af, g⟩ l H K = jN m l fun m => jN k l fun k => jN v l fun v => b5r P H t m k v fun H1 => K undef H1 := by
 have h2 : kD ((a1x P H t (ev l m) (ev l k) (ev l v)).map fun H => (undef, H)) K = ∃ H1, a1x P H t (ev l m) (ev l k) (ev l v) = some H1 ∧ K undef H1 := by
  cases a1x P H t (ev l m) (ev l k) (ev l v) <;> simp [kD]
 simp only [mA, opD, jN, Op.operands, b5r, h2]
 simp [and_assoc]
theorem b1V (kvs : List (κ × β)) (k : κ) (v : β) : a6g kvs k v = match (kvs.map (·.1)).findIdx? (fun x => decide (x = k)) with | some j => kvs.set j (k, v) | none => kvs ++ [(k, v)] := by
 unfold a6g
 rw [List.findIdx?_map]
 rfl
theorem St.cd (hS : St P H0 H os) (i : Nat) {A : Nat} {kvs : List (κ × β)} (ho : os[i]? = some ⟨.map (some A), 0, kcs enc f kvs⟩) (hk : MapK P t enc z) {k : κ} {v : β} {K : Heap → Prop}
 (h : ∀ H1, St P H0 H1 (os.set i ⟨.map (some A), 0, kcs enc f (a6g kvs k v)⟩) → K H1) : b5r P H t (.map (some A)) (enc k) (f v) K := by
 obtain ⟨kt, et, h1, h2, h3, h4, h5, h6⟩ := hk.ex
 obtain ⟨es, ck, ver, h7, h8, hst⟩ := hS.bW i ho
 obtain ⟨h9, h10⟩ := a5x es kvs h8
 have hi := h5 k es (kvs.map (·.1)) (by rw [h9]; simp [gY])
 have fin : ∀ es' ck', mcs es' = kcs enc f (a6g kvs k v) → Stamps es' ck' → St P H0 (hset H A (.map es' ck' (ver + 1))) (os.set i ⟨.map (some A), 0, kcs enc f (a6g kvs k v)⟩) := by
  intro es' ck' he hst'
  refine hS.put i ho ?_ ?_ ?_ ?_
  ·unfold OwnAt
   rw [if_pos rfl]
   exact .inr ⟨A, es', ck', _, iT _ (jO h7), he.symm, rfl, hst'⟩
  ·rw [jQ]; exact dh _
  ·intro B hB hne
   exact rD fun hh => hne (by simp [kH, hh])
  ·exact fun B hB => .inl hB
 rcases b2h kvs k with ⟨j, x, e1, e2, _⟩ | ⟨e1, _⟩
 ·have hj : es[j]?.map (·.key) = some (enc x.1) := by
   rw [← eN, h9, eN, e2]; rfl
  have hx : x.1 = k := by
   have := List.findIdx?_eq_some_iff_getElem.1 e1
   obtain ⟨hlt, hd, _⟩ := this
   have hlt' : j < kvs.length := by simpa using hlt
   have : kvs[j] = x := by
    rw [dq hlt'] at e2
    exact cW e2
   simp [this] at hd
   exact hd
  cases he : es[j]? with
  | none => rw [he] at hj; simp at hj
  | some e =>
    rw [he] at hj
    simp only [dM, dE] at hj
    refine ⟨hset H A (.map (es.set j { e with key := enc k, val := f v }) ck (ver + 1)), ?_, h _ (fin _ _ ?_ (hst.set he _ rfl))⟩
    ·have hsb : Instr.sameBits 10000 e.key (enc k) = true := by rw [hj, hx]; exact h6 k
     simp only [a1x, h1, cX, h7, h4, if_true, hi, e1, he, hsb]
    ·symm
     rw [b1V, e1]
     refine a9j _ _ ?_ ?_
     ·rw [List.map_set, List.map_set, h9]
     ·rw [List.map_set, List.map_set, h10]
 ·refine ⟨hset H A (.map (es ++ [{ key := enc k, val := f v, born := ck }]) (ck + 1) (ver + 1)), ?_, h _ (fin _ _ ?_ (hst.push _ rfl))⟩
  ·simp only [a1x, h1, cX, h7, h4, if_true, hi, e1]
  ·symm
   rw [b1V, e1]
   refine a9j _ _ ?_ ?_
   ·rw [dT, dT, h9]; rfl
   ·rw [dT, dT, h10]; rfl
def b9d (P : Program) (H : Heap) (t : TypeId) (m k : Value) (K : Value → Heap → Prop) (_k : Keep K := ⟨⟩) : Prop := ∃ v H1, tP P H t m k = some (v, H1) ∧ K v H1
theorem a9n {t : TypeId} {m m' k k' : Value} {K : Value → Heap → Prop} (h : m = m') (h2 : k = k') : b9d P H t m k K = b9d P H t m' k' K := by rw [h, h2]
attribute [congr] a9n
def b1W (H : Heap) (m b v : Value) (K : Heap → Prop) (_k : Keep K := ⟨⟩) : Prop := ∃ H1, rV H m b v = some H1 ∧ K H1
theorem a7P {m m' b b' v v' : Value} {K : Heap → Prop} (h : m = m') (h2 : b = b') (h3 : v = v') : b1W H m b v K = b1W H m' b' v' K := by rw [h, h2, h3]
attribute [congr] a7P
theorem a6d (d ty pos af g) (t : TypeId) (m k : Operand) (l : List Value) (K : Value → Heap → Prop) :
 mA P ⟨d, .mapEntry t m k, ty, pos, af, g⟩ l H K = jN m l fun m => jN k l fun k => b9d P H t m k K := by
 have h2 : kD (tP P H t (ev l m) (ev l k)) K = ∃ v H1, tP P H t (ev l m) (ev l k) = some (v, H1) ∧ K v H1 := mY ..
 simp only [mA, opD, jN, Op.operands, b9d, h2]
 simp [and_assoc]
theorem a2o (d ty pos af g) (t : TypeId) (m b v : Operand) (l : List Value) (K : Value → Heap → Prop) :
 mA P ⟨d, .entryStore t m b v, ty, pos, af, g⟩ l H K = jN m l fun m => jN b l fun b => jN v l fun v => b1W H m b v fun H1 => K undef H1 := by
 have h2 : kD ((rV H (ev l m) (ev l b) (ev l v)).map fun H => (undef, H)) K = ∃ H1, rV H (ev l m) (ev l b) (ev l v) = some H1 ∧ K undef H1 := by
  cases rV H (ev l m) (ev l b) (ev l v) <;> simp [kD]
 simp only [mA, opD, jN, Op.operands, b1W, h2]
 simp [and_assoc]
theorem a2b (kvs : List (κ × β)) (k k' : κ) (v : β) : a2V (a6g kvs k v) k' = if k' = k then some v else a2V kvs k' := by
 unfold a2V a6g
 induction kvs with
 | nil =>
   by_cases h : k' = k
   ·simp [h]
   ·simp [h, fb h]
 | cons p kvs ih =>
   by_cases hp : p.1 = k
   ·simp only [ff, hp, decide_true, if_true, fh, List.find?_cons]
    by_cases h : k' = k
    ·simp [h]
    ·simp [h, fb h]
   ·have hd : decide (p.1 = k) = false := by simp [hp]
    simp only [ff, hd, dV, if_false]
    by_cases hq : p.1 = k'
    ·have hne : ¬ k' = k := fun e => hp (hq.trans e)
     cases hh : kvs.findIdx? (fun p => decide (p.1 = k)) with
     | none => simp [hq, hne]
     | some j => simp [hq, hne]
    ·cases hh : kvs.findIdx? (fun p => decide (p.1 = k)) with
     | none =>
       rw [hh] at ih
       simpa [hq, List.find?_cons] using ih
     | some j =>
       rw [hh] at ih
       simpa [hq, List.find?_cons] using ih
end
end Go.Ds
namespace Go.Ds
noncomputable section
variable {P : Program} {H : Heap}
theorem kS {α : Type} (P : Program) (x : α) : iL P (pure x) = some x := rfl
theorem jY {t : TypeId} {d : TypeDesc} (h : P.underlying t = some d) : iL P (underlying t) = some d := by
 unfold underlying
 rw [iK]
 have : iL P program = some P := rfl
 rw [this, cX, h]
 rfl
def lK : Operand → Bool
 | .const _ => true
 | _ => false
def oT (c : Bool) (i : Nat) (v : Value) : Operand := if c then .const v else .tmp i
def kK (P : Program) (op : BinOp) (t t2 : TypeId) (cx cy : Bool) (x y : Value) : Option Value := (opD P ⟨none, .binOp op t (oT cx 0 x) (oT cy 1 y) t2, t, "", #[], none⟩ [x, y] .nil).map (·.1)
def kP (P : Program) (op : BinOp) (t t2 : TypeId) (cx cy : Bool) (x y : Value) (K : Value → Prop) (_k : Keep K := ⟨⟩) : Prop := match x, y with
 | .int k a, .int k' b => (match (if k = k' then mN op k a b else none) with | some v => K v | none => jS (kK P op t t2 cx cy (.int k a) (.int k' b)) K)
 | x, y => jS (kK P op t t2 cx cy x y) K
theorem a6T {op : BinOp} {t t2 : TypeId} {cx cy : Bool} {x x' y y' : Value} {K : Value → Prop} (h : x = x') (h2 : y = y') : kP P op t t2 cx cy x y K = kP P op t t2 cx cy x' y' K := by rw [h, h2]
attribute [congr] a6T
theorem b0b (x : Operand) (l m : List Value) : ev (ev l x :: m) (oT (lK x) 0 (ev l x)) = ev l x := by cases x <;> rfl
theorem a8O (x : Operand) (l m : List Value) (a : Value) : ev (a :: ev l x :: m) (oT (lK x) 1 (ev l x)) = ev l x := by cases x <;> rfl
theorem b5D (op : BinOp) (t : TypeId) (x y : Operand) (l : List Value) : eqGuard op t x y (ev l x) (ev l y) = eqGuard op t (oT (lK x) 0 (ev l x)) (oT (lK y) 1 (ev l y)) (ev l x) (ev l y) := by
 generalize hx : ev l x = vx
 generalize hy : ev l y = vy
 cases x <;> cases y <;> rfl
theorem b9z (d ty pos af g) (op : BinOp) (t : TypeId) (x y : Operand) (t2 : TypeId) (l : List Value) (H : Heap) :
 opD P ⟨d, .binOp op t x y t2, ty, pos, af, g⟩ l H = (kK P op t t2 (lK x) (lK y) (ev l x) (ev l y)).map fun v => (v, H) := by
 have hp : kR P ⟨d, .binOp op t x y t2, ty, pos, af, g⟩ l H = _ := nG (P := P) ⟨d, .binOp op t x y t2, ty, pos, af, g⟩ ⟨none, .binOp op t (oT (lK x) 0 (ev l x)) (oT (lK y) 1 (ev l y)) t2, t, "", #[], none⟩ l [ev l x, ev l y] H
  (by simp only [Op.operands, eG, gj, b0b, a8O]) (by
    simp only [execOp]
    rw [b0b, a8O, ← b5D])
 simp only [opD, kK, hp, b0b, a8O]
 generalize kR P _ _ _ = r
 generalize ev l x = vx
 generalize ev l y = vy
 split
 all_goals first
  | (split <;> first | rfl | (split <;> first | rfl | (cases r <;> rfl)) | (cases r <;> rfl))
  | (cases r <;> rfl)
theorem b5h (d ty pos af g) (op : BinOp) (t : TypeId) (x y : Operand) (t2 : TypeId) (l : List Value) (K : Value → Heap → Prop) :
 mA P ⟨d, .binOp op t x y t2, ty, pos, af, g⟩ l H K = jN x l fun x' => jN y l fun y' => kP P op t t2 (lK x) (lK y) x' y' fun v => K v H := by
 have h : kD (opD P ⟨d, .binOp op t x y t2, ty, pos, af, g⟩ l H) K = kP P op t t2 (lK x) (lK y) (ev l x) (ev l y) fun v => K v H := by
  have key : kD ((kK P op t t2 (lK x) (lK y) (ev l x) (ev l y)).map fun v => (v, H)) K = jS (kK P op t t2 (lK x) (lK y) (ev l x) (ev l y)) fun v => K v H := by
   cases kK P op t t2 (lK x) (lK y) (ev l x) (ev l y) <;> rfl
  rw [b9z, key]
  unfold kP
  split
  ·rename_i k a k' b hx hy
   split
   ·rename_i v hv
    split at hv
    ·rename_i hk
     subst hk
     have : kK P op t t2 (lK x) (lK y) (.int k a) (.int k b) = some v := by
      have h1 : ∀ m, ev ((.int k a : Value) :: m) (oT (lK x) 0 (.int k a)) = .int k a := fun m => by cases lK x <;> rfl
      have h2 : ∀ m c, ev (c :: (.int k b : Value) :: m) (oT (lK y) 1 (.int k b)) = .int k b := fun m c => by cases lK y <;> rfl
      cases op <;> simp only [mN] at hv <;> first | (cases hv; done) | (simp only [kK, opD, h1, h2, mN, if_true, hv]; rfl)
     rw [hx, hy, this]
     rfl
    ·cases hv
   ·rw [hx, hy]
  ·rfl
 simp only [mA, h, jN, Op.operands]
 simp [and_assoc]
theorem lY (op : BinOp) (t t2 : TypeId) (cx cy : Bool) (k : IntKind) (a b : Int) {v : Value} (K : Value → Prop) (h : mN op k a b = some v) : kP P op t t2 cx cy (.int k a) (.int k b) K = nM v K := by
 simp [kP, h, nM]
section
theorem b3t (t t2 : TypeId) (cx cy : Bool) (k : IntKind) (a b : Int) (K : Value → Prop) : kP P .add t t2 cx cy (.int k a) (.int k b) K = nM (.int k (k.wrap (a + b))) K := lY _ _ _ _ _ _ _ _ _ (by simp [mN, b1u, uM])
theorem b3J (t t2 : TypeId) (cx cy : Bool) (k : IntKind) (a b : Int) (K : Value → Prop) : kP P .sub t t2 cx cy (.int k a) (.int k b) K = nM (.int k (k.wrap (a - b))) K := lY _ _ _ _ _ _ _ _ _ (by simp [mN, b1N, uM])
theorem b2M (t t2 : TypeId) (cx cy : Bool) (k : IntKind) (a b : Int) (K : Value → Prop) : kP P .mul t t2 cx cy (.int k a) (.int k b) K = nM (.int k (k.wrap (a * b))) K := lY _ _ _ _ _ _ _ _ _ (by simp [mN, uM])
theorem b4k (t t2 : TypeId) (cx cy : Bool) (k : IntKind) (a b : Int) (K : Value → Prop) : kP P .eql t t2 cx cy (.int k a) (.int k b) K = nM (.bool (decide (a = b))) K := lY _ _ _ _ _ _ _ _ _ (by simp [mN, a1O]; rfl)
theorem b2I (t t2 : TypeId) (cx cy : Bool) (k : IntKind) (a b : Int) (K : Value → Prop) : kP P .neq t t2 cx cy (.int k a) (.int k b) K = nM (.bool (decide (¬ a = b))) K := lY _ _ _ _ _ _ _ _ _ (by simp [mN, a1O]; rfl)
theorem b3o (t t2 : TypeId) (cx cy : Bool) (k : IntKind) (a b : Int) (K : Value → Prop) : kP P .lss t t2 cx cy (.int k a) (.int k b) K = nM (.bool (decide (a < b))) K := lY _ _ _ _ _ _ _ _ _ (by simp [mN, a0c])
theorem b2y (t t2 : TypeId) (cx cy : Bool) (k : IntKind) (a b : Int) (K : Value → Prop) : kP P .leq t t2 cx cy (.int k a) (.int k b) K = nM (.bool (decide (a ≤ b))) K := lY _ _ _ _ _ _ _ _ _ (by simp [mN, a0c, ← Int.not_lt])
theorem b3T (t t2 : TypeId) (cx cy : Bool) (k : IntKind) (a b : Int) (K : Value → Prop) : kP P .gtr t t2 cx cy (.int k a) (.int k b) K = nM (.bool (decide (b < a))) K := lY _ _ _ _ _ _ _ _ _ (by simp [mN, a0c])
theorem b3V (t t2 : TypeId) (cx cy : Bool) (k : IntKind) (a b : Int) (K : Value → Prop) : kP P .geq t t2 cx cy (.int k a) (.int k b) K = nM (.bool (decide (b ≤ a))) K := lY _ _ _ _ _ _ _ _ _ (by simp [mN, a0c, ← Int.not_lt])
theorem b4z (t t2 : TypeId) (cx cy : Bool) (k : IntKind) (a b : Int) (K : Value → Prop) (hb : b ≠ 0) : kP P .rem t t2 cx cy (.int k a) (.int k b) K = nM (.int k (a.tmod b)) K := lY _ _ _ _ _ _ _ _ _ (by
 have : (b == 0) = false := by simp [hb]
 simp [mN, a1O, this])
theorem b2v (t t2 : TypeId) (cx cy : Bool) (k : IntKind) (a b : Int) (K : Value → Prop) (hb : b ≠ 0) : kP P .quo t t2 cx cy (.int k a) (.int k b) K = nM (.int k (k.wrap (a.tdiv b))) K := lY _ _ _ _ _ _ _ _ _ (by
 have : (b == 0) = false := by simp [hb]
 simp [mN, a1O, uM, this])
end
theorem lR {op : BinOp} {t t2 : TypeId} {cx cy : Bool} {x y v : Value} (hx : flat x = true) (hy : flat y = true) (hg : iL P (eqGuard op t (oT cx 0 x) (oT cy 1 y) x y) = some ())
 (hv : iL P (binOp op t x y) = some v) (hf : flat v = true) (hs : ∀ a n c, x ≠ .slice (some a) n c) (hp : ∀ a, x ≠ .pointer (some a)) (hi : ∀ k a b, x = .int k a → y = .int k b → mN op k a b = none) : kK P op t t2 cx cy x y = some v := by
 have h1 : ∀ m, ev (x :: m) (oT cx 0 x) = x := fun m => by cases cx <;> rfl
 have h2 : ∀ m c, ev (c :: y :: m) (oT cy 1 y) = y := fun m c => by cases cy <;> rfl
 have hpl : kR P ⟨none, .binOp op t (oT cx 0 x) (oT cy 1 y) t2, t, "", #[], none⟩ [x, y] .nil = some (v, .nil) := by
  unfold kR
  rw [if_pos (by simp [Op.operands, h1, h2, hx, hy])]
  have : execOp (ev [x, y]) ⟨none, .binOp op t (oT cx 0 x) (oT cy 1 y) t2, t, "", #[], none⟩ = (do let v ← (do eqGuard op t (oT cx 0 x) (oT cy 1 y) x y; binOp op t x y); pure (.value v)) := by
   simp only [execOp, h1, h2]
  rw [this, iK, iK, hg, cX, hv, cX, kS]
  simp only [hf, if_true]
 simp only [kK, opD, h1, h2, hpl]
 split
 ·exact absurd rfl (hs _ _ _)
 ·exact absurd rfl (hs _ _ _)
 ·rename_i k a k' b
  split
  ·rename_i hk
   subst hk
   rw [hi _ _ _ rfl rfl]
   rfl
  ·rfl
 ·exact absurd rfl (hp _)
 ·exact absurd rfl (hp _)
 ·exact absurd rfl (hp _)
 ·exact absurd rfl (hp _)
 ·rfl
theorem qQ {op : BinOp} {t : TypeId} {x y : Operand} {k k' : IntKind} {a b : Int} : iL P (eqGuard op t x y (.int k a) (.int k' b)) = some () := by
 unfold eqGuard
 split <;> rfl
section
theorem b6s (t t2 : TypeId) (cx cy : Bool) (a b : Int) {k k' : IntKind} (hb : 0 ≤ b) : kK P .shr t t2 cx cy (.int k a) (.int k' b) = some (.int k (a.fdiv (2 ^ (min b.toNat k.bits)))) :=
 lR rfl rfl qQ (by simp only [binOp, Op.shift]; rw [if_neg (by omega)]; rfl) rfl (by simp) (by simp) (by intros; rfl)
theorem b7K (t t2 : TypeId) (cx cy : Bool) (a b : Int) {k k' : IntKind} (hb : 0 ≤ b) : kK P .shl t t2 cx cy (.int k a) (.int k' b) = some (.int k (k.wrap (a * 2 ^ (min b.toNat k.bits)))) :=
 lR rfl rfl qQ (by simp only [binOp, Op.shift]; rw [if_neg (by omega)]; rfl) rfl (by simp) (by simp) (by intros; rfl)
theorem b6z (t t2 : TypeId) (cx cy : Bool) (a b : Int) (k : IntKind) : kK P .and t t2 cx cy (.int k a) (.int k b) = some (.int k (k.wrap (BitVec.ofInt k.bits a &&& BitVec.ofInt k.bits b).toNat)) :=
 lR rfl rfl qQ (by simp only [binOp]; rw [if_neg (by simp)]; rfl) rfl (by simp) (by simp) (by intros; rfl)
theorem b9h (t t2 : TypeId) (cx cy : Bool) (a b : Int) (k : IntKind) : kK P .or t t2 cx cy (.int k a) (.int k b) = some (.int k (k.wrap (BitVec.ofInt k.bits a ||| BitVec.ofInt k.bits b).toNat)) :=
 lR rfl rfl qQ (by simp only [binOp]; rw [if_neg (by simp)]; rfl) rfl (by simp) (by simp) (by intros; rfl)
theorem b4I (t t2 : TypeId) (cx cy : Bool) (a b : Int) (k : IntKind) : kK P .xor t t2 cx cy (.int k a) (.int k b) = some (.int k (k.wrap (BitVec.ofInt k.bits a ^^^ BitVec.ofInt k.bits b).toNat)) :=
 lR rfl rfl qQ (by simp only [binOp]; rw [if_neg (by simp)]; rfl) rfl (by simp) (by simp) (by intros; rfl)
theorem a7F (t t2 : TypeId) (cx cy : Bool) (a b : Int) (k : IntKind) : kK P .andNot t t2 cx cy (.int k a) (.int k b) = some (.int k (k.wrap (BitVec.ofInt k.bits a &&& ~~~ BitVec.ofInt k.bits b).toNat)) :=
 lR rfl rfl qQ (by simp only [binOp]; rw [if_neg (by simp)]; rfl) rfl (by simp) (by simp) (by intros; rfl)
end
section
variable (a b : ByteArray)
theorem a0s {op : BinOp} {t : TypeId} {x y : Operand} : iL P (eqGuard op t x y (.string a) (.string b)) = some () := by
 unfold eqGuard
 split <;> rfl
theorem a1f (h : a.data.toList = b.data.toList) : a = b := by
 cases a; cases b
 simp only [ByteArray.mk.injEq]
 exact Array.toList_inj.1 h
theorem a2w : (a.toList == b.toList) = decide (a = b) := by
 rw [ByteArray.toList_eq, ByteArray.toList_eq, dY, beq_iff_eq, decide_eq_true_iff]
 exact ⟨a1f a b, fun h => by rw [h]⟩
theorem b1g (t t2 : TypeId) (cx cy : Bool) (a b : ByteArray) : kK P .eql t t2 cx cy (.string a) (.string b) = some (.bool (decide (a = b))) :=
 lR rfl rfl (a0s a b) (by rw [← a2w]; rfl) rfl (by simp) (by simp) (by intro _ _ _ h; cases h)
theorem a9u (t t2 : TypeId) (cx cy : Bool) (a b : ByteArray) : kK P .neq t t2 cx cy (.string a) (.string b) = some (.bool (decide (¬ a = b))) :=
 lR rfl rfl (a0s a b) (by
  have : decide (¬ a = b) = !(a.toList == b.toList) := by rw [a2w]; simp
  rw [this]; rfl) rfl (by simp) (by simp) (by intro _ _ _ h; cases h)
theorem a8z (t t2 : TypeId) (cx cy : Bool) (a b : ByteArray) (h : a.size + b.size < 9223372036854775808) : kK P .add t t2 cx cy (.string a) (.string b) = some (.string (a ++ b)) :=
 lR rfl rfl (a0s a b) (by
  simp only [binOp, Op.stringOp]
  rw [if_neg]
  ·rfl
  ·have : IntKind.i64.max = 9223372036854775807 := by decide
   rw [this]; omega) rfl (by simp) (by simp) (by intro _ _ _ h; cases h)
end
theorem b6O {t : TypeId} (s : ByteArray) (ht : oD P t = true) : a0X P H t (.string s) = some (.int .i64 s.size) := by
 unfold oD at ht
 unfold a0X
 split at ht
 ·rename_i h; rw [h]; simp [xV, goInt]
 ·cases ht
def pL (P : Program) (t : TypeId) (x i : Value) : Option Value := (opD P ⟨none, .index t (.const x) (.const i), t, "", #[], none⟩ [] .nil).map (·.1)
theorem b4l (d ty pos af g) (t : TypeId) (x i : Operand) (l : List Value) (K : Value → Heap → Prop) :
 mA P ⟨d, .index t x i, ty, pos, af, g⟩ l H K = jN x l fun x => jN i l fun i => jS (pL P t x i) fun v => K v H := by
 have h : opD P ⟨d, .index t x i, ty, pos, af, g⟩ l H = (pL P t (ev l x) (ev l i)).map fun v => (v, H) := by
  have hp := nG (P := P) ⟨d, .index t x i, ty, pos, af, g⟩ ⟨none, .index t (.const (ev l x)) (.const (ev l i)), t, "", #[], none⟩ l [] H rfl rfl
  simp only [opD, pL]
  exact hp
 have h2 : kD ((pL P t (ev l x) (ev l i)).map fun v => (v, H)) K = jS (pL P t (ev l x) (ev l i)) fun v => K v H := by cases pL P t (ev l x) (ev l i) <;> rfl
 simp only [mA, h, jN, Op.operands, h2]
 simp [and_assoc]
def oK (s : ByteArray) (i : Nat) : Nat := (s.data.toList.getD i 0).toNat
theorem b1c {t : TypeId} (s : ByteArray) (k : IntKind) (i : Int) (ht : oD P t = true) (h0 : 0 ≤ i) (h1 : i < s.size) : pL P t (.string s) (.int k i) = some (.int .u8 (oK s i.toNat)) := by
 have hu : P.underlying t = some .string := by
  unfold oD at ht
  split at ht
  ·rename_i h; exact h
  ·cases ht
 have hr : iL P (Instr.index t (.string s) (.int k i)) = some (.int .u8 (oK s i.toNat)) := by
  unfold Instr.index
  rw [iK]
  have e1 : iL P (asIntOf (.int k i)) = some (k, i) := rfl
  rw [e1, cX]
  simp only [iK, jY hu, cX]
  rw [if_pos h0]
  have hlt : i.toNat < s.size := by omega
  have hb : s[i.toNat]? = some s[i.toNat] := by simp [getElem?_pos, hlt]
  simp only [hb]
  rw [kS]
  congr 3
  unfold oK
  rw [db]
  have hl : i.toNat < s.data.toList.length := by simpa using hlt
  rw [dq hl]
  rfl
 have hpl : kR P ⟨none, .index t (.const (.string s)) (.const (.int k i)), t, "", #[], none⟩ [] .nil = some (.int .u8 (oK s i.toNat), .nil) := by
  unfold kR
  rw [if_pos (by rfl)]
  have : execOp (ev []) ⟨none, .index t (.const (.string s)) (.const (.int k i)), t, "", #[], none⟩ = (do let v ← Instr.index t (.string s) (.int k i); pure (.value v)) := rfl
  rw [this, iK, hr, cX, kS]
  rfl
 simp only [pL, opD, hpl]
 rfl
def a0H (P : Program) (t : TypeId) : Option IntKind := match P.underlying t with | some (.int k) => some k | _ => none
theorem a0O {t : TypeId} {k : IntKind} (h : a0H P t = some k) : P.underlying t = some (.int k) := by
 unfold a0H at h
 split at h
 ·rename_i h2; rw [h2]; injection h with h; rw [h]
 ·cases h
theorem b3n {s t : TypeId} {k k' : IntKind} (a : Int) (hs : a0H P s = some k) (ht : a0H P t = some k') : a2W P s t (.int k a) = some (.int k' (k'.wrap a)) := by
 have hr : iL P (convert s t (.int k a)) = some (.int k' (k'.wrap a)) := by
  unfold convert
  simp only [iK, jY (a0O hs), jY (a0O ht), cX]
  rfl
 have hpl : kR P ⟨none, .convert s t (.const (.int k a)), t, "", #[], none⟩ [] .nil = some (.int k' (k'.wrap a), .nil) := by
  unfold kR
  rw [if_pos (by rfl)]
  have : execOp (ev []) ⟨none, .convert s t (.const (.int k a)), t, "", #[], none⟩ = (do let v ← convert s t (.int k a); pure (.value v)) := rfl
  rw [this, iK, hr, cX, kS]
  rfl
 simp only [a2W, hpl]
 rfl
def a5A (P : Program) (d : Nat) (xs ys : Array Value) (fs : List Field) : Option Bool :=
 (iL P (forIn fs ((none, ()) : Option Bool × Unit) fun f _ =>
   if f.name ≠ "_" then do
    let a ← part f.type xs f.offset
    let b ← part f.type ys f.offset
    let c ← Op.equalIn d f.type a b
    if (!c) = true then pure (ForInStep.done (some false, ())) else pure (ForInStep.yield (none, ()))
   else pure (ForInStep.yield (none, ())))).bind fun x => iL P (match x.fst with | some r => pure r | none => pure true)
theorem a2H {d : Nat} {xs ys : Array Value} (g : Field → Bool) : ∀ (fs : List Field), (∀ f ∈ fs, f.name ≠ "_" ∧ iL P (part f.type xs f.offset >>= fun x => part f.type ys f.offset >>= fun y => Op.equalIn d f.type x y) = some (g f)) →
 a5A P d xs ys fs = some (fs.all g)
 | [], _ => rfl
 | f :: fs, hg => by
   obtain ⟨h1, h2⟩ := hg f (dH ..)
   have ih := a2H g fs fun f' h => hg f' (dP _ h)
   unfold a5A at ih ⊢
   rw [iK] at h2
   simp only [List.forIn_cons, h1, ne_eq, not_false_eq_true, if_true, iK]
   cases hx : iL P (part f.type xs f.offset) with
   | none => rw [hx] at h2; cases h2
   | some x =>
     rw [hx, cX, iK] at h2
     cases hy : iL P (part f.type ys f.offset) with
     | none => rw [hy] at h2; cases h2
     | some y =>
       rw [hy, cX] at h2
       simp only [cX, h2]
       cases hgf : g f with
       | false =>
         simp only [Bool.not_false, if_true, kS, cX, fx, hgf, fB]
       | true =>
         simp only [Bool.not_true, dV, if_false, kS, cX, fx, hgf, gM]
         exact ih
theorem a7L {d : Nat} {t : TypeId} {fs : List Field} {xs ys : Array Value} (hu : P.underlying t = some (.struct fs.toArray)) (hst : P.stoodInHeld t = false) (g : Field → Bool)
 (hg : ∀ f ∈ fs, f.name ≠ "_" ∧ iL P (part f.type xs f.offset >>= fun x => part f.type ys f.offset >>= fun y => Op.equalIn d f.type x y) = some (g f)) : iL P (Op.equalIn (d + 1) t (.agg xs) (.agg ys)) = some (fs.all g) := by
 rw [Op.equalIn, iK, jY hu, cX]
 have hp : iL P program = some P := rfl
 simp only [iK, hp, cX, hst, dV, if_false, List.forIn_toArray]
 refine Eq.trans ?_ (a2H g fs hg)
 unfold a5A
 congr 1
 funext x
 cases x.fst <;> rfl
theorem a4A {op : BinOp} {t : TypeId} (ht : P.eqGuardType P.depth t = false) {x y : Operand} {a b : Array Value} : iL P (eqGuard op t x y (.agg a) (.agg b)) = some () := by
 have hp : iL P program = some P := rfl
 unfold eqGuard
 cases op <;> simp [iK, hp, ht, kS]
theorem b6h {t t2 : TypeId} {cx cy : Bool} {xs ys : List Value} (b : Bool) (ht : P.eqGuardType P.depth t = false) (hx : xs.all iZ = true) (hy : ys.all iZ = true) (h : iL P (Op.equalIn (9999 + 1) t (.agg xs.toArray) (.agg ys.toArray)) = some b) :
 kK P .eql t t2 cx cy (.agg xs.toArray) (.agg ys.toArray) = some (.bool b) :=
 lR (by simp [flat, jC, kM, hx]) (by simp [flat, jC, kM, hy]) (a4A ht) (by
  have hmd : Op.maxDepth = 9999 + 1 := by decide
  simp only [binOp, iK, Op.equal]
  rw [hmd, h, cX, kS]) rfl (by simp) (by simp) (by intro _ _ _ h; cases h)
theorem a7a {t t2 : TypeId} {cx cy : Bool} {xs ys : List Value} (b : Bool) (ht : P.eqGuardType P.depth t = false) (hx : xs.all iZ = true) (hy : ys.all iZ = true) (h : iL P (Op.equalIn (9999 + 1) t (.agg xs.toArray) (.agg ys.toArray)) = some b) :
 kK P .neq t t2 cx cy (.agg xs.toArray) (.agg ys.toArray) = some (.bool (!b)) :=
 lR (by simp [flat, jC, kM, hx]) (by simp [flat, jC, kM, hy]) (a4A ht) (by
  have hmd : Op.maxDepth = 9999 + 1 := by decide
  simp only [binOp, iK, Op.equal]
  rw [hmd, h, cX, kS]) rfl (by simp) (by simp) (by intro _ _ _ h; cases h)
end
end Go.Ds
namespace Go.Ds
noncomputable section
variable {P : Program} {H : Heap}
theorem a2R (a b : ByteArray) : (a == b) = decide (b = a) := by
 obtain ⟨x⟩ := a
 obtain ⟨y⟩ := b
 rw [dY, decide_eq_true_iff]
 constructor
 ·intro h
  have e : x = y := by simpa using (show (x == y) = true from h)
  rw [e]
 ·intro h
  cases h
  show (x == x) = true
  simp
theorem a4P (o : Option Nat) (i : Nat) : o.map (i + 1 + ·) = (o.map (· + 1)).map (i + ·) := by
 cases o with
 | none => rfl
 | some j => simp only [dM]; congr 1; omega
theorem a0Y (k : ByteArray) : ∀ (es : List MapEntry) (ks : List ByteArray) (i : Nat), es.map (·.key) = ks.map Value.string →
 (Instr.findNow .string (.string k) (es.map xK) i).map (·.map (·.1)) = some ((ks.findIdx? fun x => decide (x = k)).map (i + ·))
 | [], [], i, _ => rfl
 | [], _ :: _, _, h => by simp at h
 | _ :: _, [], _, h => by simp at h
 | e :: es, s :: ks, i, h => by
   simp only [eG, fU] at h
   have hs : Instr.sameNow .string (.string k) e.key = some (decide (s = k)) := by
    rw [h.1]
    show some (k == s) = _
    rw [a2R]
   simp only [eG, Instr.findNow, xK, hs, ff]
   by_cases hd : s = k
   ·simp [hd]
   ·simp only [hd, decide_false, dV, if_false]
    have := a0Y k es ks (i + 1) h.2
    rw [a4P] at this
    exact this
theorem b2b {κ : Type} [DecidableEq κ] {enc : κ → Value} {kt : TypeId} (heq : ∀ a b, iL P (Op.equal kt (enc a) (enc b)) = some (decide (b = a))) (k : κ) : ∀ (es : List MapEntry) (ks : List κ) (i : Nat), es.map (·.key) = ks.map enc →
 (iL P (Instr.findAsking kt (enc k) (es.map xK) i)).map (·.map (·.1)) = some ((ks.findIdx? fun x => decide (x = k)).map (i + ·))
 | [], [], i, _ => rfl
 | [], _ :: _, _, h => by simp at h
 | _ :: _, [], _, h => by simp at h
 | e :: es, s :: ks, i, h => by
   simp only [eG, fU] at h
   simp only [eG, Instr.findAsking, xK, iK, ff]
   rw [h.1, heq, cX]
   by_cases hd : s = k
   ·simp [hd, kS]
   ·simp only [hd, decide_false, dV, if_false]
    have := b2b heq k es ks (i + 1) h.2
    rw [a4P] at this
    exact this
theorem MapK.str {t kt et : TypeId} {z : Value} (hm : zJ P t = some (kt, et)) (hu : P.underlying kt = some .string) (hz : jA P et = some z) (hf : jC z = true) : MapK P t Value.string z where
 ex := by
  refine ⟨kt, et, hm, hz, hf, ?_, ?_, ?_⟩
  ·intro b k
   have : iL P (Instr.checkKey b 10000 kt (.string k)) = some () := by
    show iL P (Instr.checkKey b (9999 + 1) kt (.string k)) = some ()
    unfold Instr.checkKey
    rw [iK, jY hu, cX]
    rfl
   simp only [yH, this]
   rfl
  ·intro k es ks h
   have h1 := a0Y k es ks 0 h
   unfold rZ Instr.findKey
   rw [iK, jY hu, cX]
   cases hn : Instr.findNow .string (.string k) (es.map xK) 0 with
   | none => rw [hn] at h1; cases h1
   | some r =>
     rw [hn] at h1
     simp only [kS]
     simpa using h1
  ·intro k
   show (k == k) = true
   rw [a2R]
   simp
theorem MapK.struct {κ : Type} [DecidableEq κ] {enc : κ → Value} {t kt et : TypeId} {z : Value} {fs : Array Field} (hm : zJ P t = some (kt, et)) (hu : P.underlying kt = some (.struct fs)) (hz : jA P et = some z) (hf : jC z = true)
 (hk : ∀ b k, yH P b kt (enc k) = true) (heq : ∀ a b, iL P (Op.equal kt (enc a) (enc b)) = some (decide (b = a))) (hsb : ∀ k, Instr.sameBits 10000 (enc k) (enc k) = true) : MapK P t enc z where
 ex := by
  refine ⟨kt, et, hm, hz, hf, hk, ?_, hsb⟩
  intro k es ks h
  have h1 := b2b heq k es ks 0 h
  unfold rZ Instr.findKey
  rw [iK, jY hu, cX]
  have key : ∀ (l : List MapEntry), Instr.findNow (.struct fs) (enc k) l 0 = none ∨ l = [] := by
   intro l
   cases l with
   | nil => exact .inr rfl
   | cons e l => exact .inl rfl
  rcases key (es.map xK) with hn | hn
  ·rw [hn]
   simpa using h1
  ·rw [hn]
   have : es = [] := by simpa using hn
   subst this
   have : ks = [] := by cases ks with | nil => rfl | cons a ks => simp at h
   subst this
   rfl
end
end Go.Ds
namespace Go.Ds
noncomputable section
variable {P : Program} {H : Heap}
def a3i (o : Option (Nat × TypeId)) (P : Program) (H : Heap) (t : TypeId) (z : Value) (K : Value → Heap → Prop) (_k : Keep K := ⟨⟩) : Prop := match o with
 | none => uS (jC z) (a5y P H t z K)
 | some _ => uS (jC z) (b0f P H t z K)
theorem a5R {o o' : Option (Nat × TypeId)} {t : TypeId} {z : Value} {K : Value → Heap → Prop} (h : o = o') : a3i o P H t z K = a3i o' P H t z K := by rw [h]
attribute [congr] a5R
theorem b7G {t : TypeId} (z : Value) (K : Value → Heap → Prop) : vE P H t (some z) K = a3i (jU P t) P H t z K := by
 cases h : jU P t with
 | none => exact a7J z K h
 | some n => exact a9h z K h
theorem a6Y {t : TypeId} (z : Value) (K : Value → Heap → Prop) : a3i none P H t z K = uS (jC z) (a5y P H t z K) := rfl
theorem a8o {t : TypeId} (n : Nat × TypeId) (z : Value) (K : Value → Heap → Prop) : a3i (some n) P H t z K = uS (jC z) (b0f P H t z K) := rfl
theorem a6s {t : TypeId} {k : IntKind} (h : a0H P t = some k) : lF P t = false := by
 simp [lF, a0O h]
def a4r (ks kt : Option IntKind) (P : Program) (s t : TypeId) (H : Heap) (k : IntKind) (a : Int) (K : Value → Heap → Prop) (_k : Keep K := ⟨⟩) : Prop := match ks, kt with
 | some k0, some k' => if k0 = k then K (.int k' (k'.wrap a)) H else tZ P s t H (.int k a) K
 | _, _ => tZ P s t H (.int k a) K
theorem a7z {ks ks' kt kt' : Option IntKind} {s t : TypeId} {k : IntKind} {a : Int} {K : Value → Heap → Prop} (h : ks = ks') (h2 : kt = kt') : a4r ks kt P s t H k a K = a4r ks' kt' P s t H k a K := by rw [h, h2]
attribute [congr] a7z
theorem c0w {s t : TypeId} (k : IntKind) (a : Int) (K : Value → Heap → Prop) : tZ P s t H (.int k a) K = a4r (a0H P s) (a0H P t) P s t H k a K := by
 unfold a4r
 split
 ·rename_i k0 k' hs ht
  split
  ·rename_i hk
   subst hk
   rw [b3Y k0 a K (a6s ht), b3n a hs ht]
   rfl
  ·rfl
 ·rfl
theorem b3X {s t : TypeId} (k k' : IntKind) (a : Int) (K : Value → Heap → Prop) : a4r (some k) (some k') P s t H k a K = nM (.int k' (k'.wrap a)) fun v => K v H := by simp [a4r, nM]
def c1T (b : Bool) (P : Program) (H : Heap) (t : TypeId) (v : Value) : Option Value := match b with
 | true => (match v with | .string s => some (.int .i64 s.size) | _ => a0X P H t v)
 | false => a0X P H t v
theorem c1O (t : TypeId) (v : Value) : a8Z none P H t v = c1T (oD P t) P H t v := by
 unfold c1T
 split
 ·rename_i h
  split
  ·exact b6O _ h
  ·rfl
 ·rfl
theorem b6n (t : TypeId) (s : ByteArray) : c1T true P H t (.string s) = some (.int .i64 s.size) := rfl
def a2t (b : Bool) (P : Program) (t : TypeId) (x i : Value) : Option Value := match b, x, i with
 | true, .string s, .int k i => if 0 ≤ i ∧ i < s.size then some (.int .u8 (oK s i.toNat)) else pL P t (.string s) (.int k i)
 | _, x, i => pL P t x i
theorem a8D (t : TypeId) (x i : Value) : pL P t x i = a2t (oD P t) P t x i := by
 unfold a2t
 split
 ·rename_i h
  split
  ·rename_i h2; exact b1c _ _ _ h h2.1 h2.2
  ·rfl
 ·rfl
theorem a9a (t : TypeId) (s : ByteArray) (k : IntKind) (i : Int) (h0 : 0 ≤ i) (h1 : i < s.size) : a2t true P t (.string s) (.int k i) = some (.int .u8 (oK s i.toNat)) := by
 simp [a2t, h0, h1]
theorem OC : (∀ k n, oneCell (.int k n) = true) ∧ (∀ b, oneCell (.bool b) = true) ∧ (∀ s, oneCell (.string s) = true) ∧ (∀ a, oneCell (.pointer a) = true) ∧ (∀ a n c, oneCell (.slice a n c) = true) ∧ (∀ r, oneCell (.map r) = true) ∧ (∀ f a b, oneCell (.func f a b) = true) ∧ oneCell .nilFunc = true :=
 ⟨fun _ _ => rfl, fun _ => rfl, fun _ => rfl, fun _ => rfl, fun _ _ _ => rfl, fun _ => rfl, fun _ _ _ => rfl, rfl⟩
theorem c4Q (o : Option Bool) : (o.map Value.bool).getD (.bool false) = .bool (o.getD false) := by cases o <;> rfl
theorem c4R (k : IntKind) (o : Option Int) : (o.map (Value.int k)).getD (.int k 0) = .int k (o.getD 0) := by cases o <;> rfl
theorem c0d (v : Value) (b : Bool) : pairV false v b = v := rfl
theorem b9A (v : Value) (b : Bool) : pairV true v b = .tuple #[v, .bool b] := rfl
theorem b7q (t : Tmp) : lK (.tmp t) = false := rfl
theorem a8V (v : Value) : lK (.const v) = true := rfl
theorem b7f (s : ByteArray) : flat (.string s) = true := rfl
theorem b4e (s : ByteArray) : jC (.string s) = true := rfl
theorem b0H (s : ByteArray) : iZ (.string s) = true := rfl
theorem a7Q (s : ByteArray) : jR (.string s) = true := rfl
theorem b5W (k : IntKind) (n : Int) : pR (.int k n) = true := rfl
theorem b2J (b : Bool) : pR (.bool b) = true := rfl
theorem b5G (s : ByteArray) : pR (.string s) = true := rfl
theorem qL {c b : Bool} {p q : Prop} (h1 : c = true → sN (.bool true) b p q) (h2 : c = false → sN (.bool false) b p q) : sN (.bool c) b p q := by
 cases c
 ·exact h2 rfl
 ·exact h1 rfl
theorem St.pick {H0 : Base} {os os' : List Ob} (hS : St P H0 H os) (idx : List Nat) (hn : idx.Nodup) (h : idx.map (os[·]?) = os'.map some) : St P H0 H os' := by
 have hmem : ∀ o ∈ os', o ∈ os := by
  intro o ho
  have : some o ∈ idx.map (os[·]?) := by rw [h]; exact fN ho
  obtain ⟨i, _, hi⟩ := dy.1 this
  exact dO hi
 refine ⟨hS.len, hS.old, fun o ho => hS.own o (hmem o ho), fun o ho => hS.new o (hmem o ho), ?_⟩
 have hpw := eK.1 hS.sep
 rw [eK]
 intro i j hi hj hij
 have hl : idx.length = os'.length := by simpa using congrArg List.length h
 have key : ∀ i (hi : i < os'.length), ∃ hk : idx[i]'(by omega) < os.length, os[idx[i]'(by omega)] = os'[i] := by
  intro i hi
  have h1 : (idx.map (os[·]?))[i]? = (os'.map some)[i]? := by rw [h]
  rw [eN, eN, dq (by omega), dq hi] at h1
  simp only [dM, dE] at h1
  exact du.1 h1
 obtain ⟨h1, e1⟩ := key i hi
 obtain ⟨h2, e2⟩ := key j hj
 have hne : idx[i]'(by omega) ≠ idx[j]'(by omega) := by
  have := eK.1 hn i j (by omega) (by omega) hij
  exact this
 rcases fQ hne with hh | hh
 ·have := hpw _ _ h1 h2 hh
  rw [e1, e2] at this
  exact this
 ·have := hpw _ _ h2 h1 hh
  rw [e1, e2] at this
  intro B hb hb'
  exact this B hb' hb
theorem St.frame {H1 : Heap} {H0 : Base} {ls rest ls' : List Ob} (hS : St P H0 H (ls ++ rest)) (h1 : St P ⟨H, sA ls⟩ H1 ls') : St P H0 H1 (ls' ++ rest) := by
 have hls : St P H0 H ls := hS.sub (List.sublist_append_left ..)
 have h2 := hls.bB h1
 have hsep := fg.1 hS.sep
 have hkeep : ∀ o ∈ rest, ∀ B, kH o.v = some B → iS H1 B = iS H B := by
  intro o ho B hB
  have hlt := (hS.own o (gq _ ho)).lt hB
  exact h1.old B hlt fun ⟨x, hx, hxb⟩ => hsep.2.2 x hx o ho B hxb hB
 refine ⟨h2.len, h2.old, ?_, ?_, ?_⟩
 ·intro o ho
  rcases dC.1 ho with ho | ho
  ·exact h2.own o ho
  ·exact (hS.own o (gq _ ho)).ae (hkeep o ho)
 ·intro o ho B hB
  rcases dC.1 ho with ho | ho
  ·exact h2.new o ho B hB
  ·exact hS.new o (gq _ ho) B hB
 ·rw [fg]
  refine ⟨h2.sep, hsep.2.1, ?_⟩
  intro x hx y hy B hb hb'
  rcases h1.new x hx B hb with hh | ⟨z, hz, hzb⟩
  ·have := (hS.own y (gq _ hy)).lt hb'
   have hh : H.length ≤ B := hh
   omega
  ·exact hsep.2.2 z hz y hy B hzb hb'
theorem b9l (t : TypeId) (k : IntKind) (n : Int) : unV P .neg t (.int k n) = some (.int k (k.wrap (0 - n))) := rfl
theorem b3b (ops : Array Oper) (d : Option Tmp) (op : Op) (ty : TypeId) (pos : String) (af : Array Edge) (j : Nat) (b : Bool) (l : List Value) (H' : Heap) (v : Value) :
 rdW P ops (some ⟨d, op, ty, pos, af, some (j, b)⟩) (some (l, H', v)) H = vQ (yE ops j) l b (mA P ⟨d, op, ty, pos, af, some (j, b)⟩ l H fun v' _ => v' = v) True := by
 rw [← tH ops l d op ty pos af]
 unfold rdW
 split
 ·rename_i h1 h2
  cases h1; cases h2
  split
  ·rename_i h; simp [h]
  ·rename_i h; simp [h]
 ·rename_i h
  exact (h _ _ _ _ rfl rfl).elim
theorem b2R (t t2 : TypeId) (cx cy : Bool) (k : IntKind) (a b : Int) (K : Value → Prop) : kP P .and t t2 cx cy (.int k a) (.int k b) K = jS (kK P .and t t2 cx cy (.int k a) (.int k b)) K := by
 have h : (if k = k then mN .and k a b else none) = none := by split <;> rfl
 unfold kP; dsimp only
 rw [h]
theorem b7A (t t2 : TypeId) (cx cy : Bool) (k : IntKind) (a b : Int) (K : Value → Prop) : kP P .or t t2 cx cy (.int k a) (.int k b) K = jS (kK P .or t t2 cx cy (.int k a) (.int k b)) K := by
 have h : (if k = k then mN .or k a b else none) = none := by split <;> rfl
 unfold kP; dsimp only
 rw [h]
theorem b2P (t t2 : TypeId) (cx cy : Bool) (k : IntKind) (a b : Int) (K : Value → Prop) : kP P .xor t t2 cx cy (.int k a) (.int k b) K = jS (kK P .xor t t2 cx cy (.int k a) (.int k b)) K := by
 have h : (if k = k then mN .xor k a b else none) = none := by split <;> rfl
 unfold kP; dsimp only
 rw [h]
theorem a6e (t t2 : TypeId) (cx cy : Bool) (k : IntKind) (a b : Int) (K : Value → Prop) : kP P .andNot t t2 cx cy (.int k a) (.int k b) K = jS (kK P .andNot t t2 cx cy (.int k a) (.int k b)) K := by
 have h : (if k = k then mN .andNot k a b else none) = none := by split <;> rfl
 unfold kP; dsimp only
 rw [h]
theorem b4q (t t2 : TypeId) (cx cy : Bool) (k k' : IntKind) (a b : Int) (K : Value → Prop) : kP P .shl t t2 cx cy (.int k a) (.int k' b) K = jS (kK P .shl t t2 cx cy (.int k a) (.int k' b)) K := by
 have h : (if k = k' then mN .shl k a b else none) = none := by split <;> rfl
 unfold kP; dsimp only
 rw [h]
theorem b3w (t t2 : TypeId) (cx cy : Bool) (k k' : IntKind) (a b : Int) (K : Value → Prop) : kP P .shr t t2 cx cy (.int k a) (.int k' b) K = jS (kK P .shr t t2 cx cy (.int k a) (.int k' b)) K := by
 have h : (if k = k' then mN .shr k a b else none) = none := by split <;> rfl
 unfold kP; dsimp only
 rw [h]
theorem b3R (op : BinOp) (t t2 : TypeId) (cx cy : Bool) (a b : ByteArray) (K : Value → Prop) : kP P op t t2 cx cy (.string a) (.string b) K = jS (kK P op t t2 cx cy (.string a) (.string b)) K := rfl
theorem b3O (op : BinOp) (t t2 : TypeId) (cx cy : Bool) (a b : Array Value) (K : Value → Prop) : kP P op t t2 cx cy (.agg a) (.agg b) K = jS (kK P op t t2 cx cy (.agg a) (.agg b)) K := rfl
theorem b3W (op : BinOp) (t t2 : TypeId) (cx cy : Bool) (a b : Bool) (K : Value → Prop) : kP P op t t2 cx cy (.bool a) (.bool b) K = jS (kK P op t t2 cx cy (.bool a) (.bool b)) K := rfl
theorem b4X (n : Int) (h1 : -9223372036854775808 ≤ n) (h2 : n < 9223372036854775808) : IntKind.wrap .i64 n = n := by
 show (if (true && decide (n % 18446744073709551616 ≥ 9223372036854775808)) = true then n % 18446744073709551616 - 18446744073709551616 else n % 18446744073709551616) = n
 simp only [gM, decide_eq_true_eq]
 omega
theorem b8d (n : Int) (h1 : -128 ≤ n) (h2 : n < 128) : IntKind.wrap .i8 n = n := by
 show (if (true && decide (n % 256 ≥ 128)) = true then n % 256 - 256 else n % 256) = n
 simp only [gM, decide_eq_true_eq]
 omega
theorem mS (n : Int) (h1 : 0 ≤ n) (h2 : n < 18446744073709551616) : IntKind.wrap .u64 n = n := by
 show (if (false && decide (n % 18446744073709551616 ≥ 9223372036854775808)) = true then n % 18446744073709551616 - 18446744073709551616 else n % 18446744073709551616) = n
 simp only [fB]
 rw [if_neg (by simp)]
 omega
theorem b5A (n : Int) (h1 : 0 ≤ n) (h2 : n < 4294967296) : IntKind.wrap .u32 n = n := by
 show (if (false && decide (n % 4294967296 ≥ 2147483648)) = true then n % 4294967296 - 4294967296 else n % 4294967296) = n
 simp only [fB]
 rw [if_neg (by simp)]
 omega
theorem qS (n : Int) (h1 : 0 ≤ n) (h2 : n < 65536) : IntKind.wrap .u16 n = n := by
 show (if (false && decide (n % 65536 ≥ 32768)) = true then n % 65536 - 65536 else n % 65536) = n
 simp only [fB]
 rw [if_neg (by simp)]
 omega
theorem c0t (n : Int) (h1 : 0 ≤ n) (h2 : n < 256) : IntKind.wrap .u8 n = n := by
 show (if (false && decide (n % 256 ≥ 128)) = true then n % 256 - 256 else n % 256) = n
 simp only [fB]
 rw [if_neg (by simp)]
 omega
end
end Go.Ds
namespace Go.Ds
noncomputable section
variable {P : Program}
def uL (P : Program) (t : TypeId) : List Field := match P.underlying t with | some (.struct fs) => fs.toList | _ => []
def eqC : Value → Value → Bool
 | .int _ a, .int _ b => a == b
 | .bool a, .bool b => a == b
 | .string a, .string b => decide (a = b)
 | _, _ => false
def okC (P : Program) (t : TypeId) (x y : Value) : Bool := match P.underlying t with
 | some (.int _) => (match x, y with | .int k _, .int k' _ => decide (k = k') | _, _ => false)
 | some .bool => (match x, y with | .bool _, .bool _ => true | _, _ => false)
 | some .string => (match x, y with | .string _, .string _ => true | _, _ => false)
 | _ => false
theorem eq1 {t : TypeId} {x y : Value} (d : Nat) (h : okC P t x y = true) : iL P (Op.equalIn (d + 1) t x y) = some (eqC x y) := by
 unfold okC at h
 split at h
 ·rename_i k0 hu
  split at h
  ·rename_i k a k' b
   have hk : k = k' := by simpa using h
   subst hk
   rw [Op.equalIn, iK, jY hu, cX]
   simp only [if_true]
   rfl
  ·cases h
 ·rename_i hu
  split at h
  ·rw [Op.equalIn, iK, jY hu, cX]; rfl
  ·cases h
 ·rename_i hu
  split at h
  ·rename_i a b
   rw [Op.equalIn, iK, jY hu, cX]
   show some (a == b) = some (decide (a = b))
   rw [a2R]
   congr 1
   simp [eq_comm]
  ·cases h
 ·cases h
theorem c1d {t : TypeId} {x y v : Value} {cs : Array Value} {off : Nat} (h : okC P t x y = true) (hc : cs[off]? = some v) : iL P (part t cs off) = some v := by
 have ha : iL P (isAgg t) = some false := by
  unfold isAgg
  unfold okC at h
  split at h
  ·rename_i hu; rw [iK, jY hu, cX]; rfl
  ·rename_i hu; rw [iK, jY hu, cX]; rfl
  ·rename_i hu; rw [iK, jY hu, cX]; rfl
  ·cases h
 unfold part
 rw [iK, ha, cX]
 simp only [dV, if_false, hc]
 rfl
theorem zP {t : TypeId} {xs ys : List Value} (d : Nat) (hu : P.underlying t = some (.struct (uL P t).toArray)) (hst : P.stoodInHeld t = false)
 (hf : ((uL P t).map fun f => (f.name != "_", f.offset)) = (List.range xs.length).map fun j => (true, j)) (hy : ys.length = xs.length)
 (hok : ((uL P t).all fun f => okC P f.type (xs.getD f.offset undef) (ys.getD f.offset undef)) = true) :
 iL P (Op.equalIn (d + 2) t (.agg xs.toArray) (.agg ys.toArray)) = some ((List.range xs.length).all fun j => eqC (xs.getD j undef) (ys.getD j undef)) := by
 rw [dr] at hok
 have hmem : ∀ f ∈ uL P t, (f.name != "_") = true ∧ f.offset < xs.length := fun f hf' => by
  have : (f.name != "_", f.offset) ∈ (List.range xs.length).map fun j => (true, j) := by rw [← hf]; exact fN hf'
  obtain ⟨j, hj, he⟩ := dy.1 this
  simp only [ga] at he
  exact ⟨he.1.symm, by rw [← he.2]; exact dx.1 hj⟩
 rw [a7L hu hst (fun f => eqC (xs.getD f.offset undef) (ys.getD f.offset undef)) ?_]
 ·congr 1
  have h1 : (uL P t).all (fun f => eqC (xs.getD f.offset undef) (ys.getD f.offset undef)) = ((uL P t).map fun f => (f.name != "_", f.offset)).all fun p => eqC (xs.getD p.2 undef) (ys.getD p.2 undef) := by
   rw [List.all_map]; rfl
  rw [h1, hf, List.all_map]
  rfl
 ·intro f hf'
  obtain ⟨h1, h2⟩ := hmem f hf'
  refine ⟨by simpa using h1, ?_⟩
  have hx : xs.toArray[f.offset]? = some (xs.getD f.offset undef) := by
   rw [fp, db, dq h2]; rfl
  have hy' : ys.toArray[f.offset]? = some (ys.getD f.offset undef) := by
   rw [fp, db, dq (by omega)]; rfl
  rw [iK, c1d (hok f hf') hx, cX, iK, c1d (hok f hf') hy', cX]
  exact eq1 d (hok f hf')
theorem zQ {t t2 : TypeId} {cx cy : Bool} {xs ys : List Value} (hu : P.underlying t = some (.struct (uL P t).toArray)) (hst : P.stoodInHeld t = false) (hg : P.eqGuardType P.depth t = false)
 (hf : ((uL P t).map fun f => (f.name != "_", f.offset)) = (List.range xs.length).map fun j => (true, j)) (hy : ys.length = xs.length)
 (hok : ((uL P t).all fun f => okC P f.type (xs.getD f.offset undef) (ys.getD f.offset undef)) = true) (hx : xs.all iZ = true) (hys : ys.all iZ = true) :
 kK P .eql t t2 cx cy (.agg xs.toArray) (.agg ys.toArray) = some (.bool ((List.range xs.length).all fun j => eqC (xs.getD j undef) (ys.getD j undef))) ∧
 kK P .neq t t2 cx cy (.agg xs.toArray) (.agg ys.toArray) = some (.bool (!((List.range xs.length).all fun j => eqC (xs.getD j undef) (ys.getD j undef)))) :=
 ⟨b6h _ hg hx hys (zP 9998 hu hst hf hy hok), a7a _ hg hx hys (zP 9998 hu hst hf hy hok)⟩
theorem c2K {t : TypeId} {k : IntKind} (hu : P.underlying t = some (.struct (uL P t).toArray)) (hst : P.stoodInHeld t = false)
 (hf : ((uL P t).map fun f => (f.name != "_", f.offset)) = (List.range 2).map fun j => (true, j))
 (hok : ∀ a b c d : Int, ((uL P t).all fun f => okC P f.type ([Value.int k a, .int k b].getD f.offset undef) ([Value.int k c, .int k d].getD f.offset undef)) = true) (a b : Int × Int) :
 iL P (Op.equal t (.agg #[.int k a.1, .int k a.2]) (.agg #[.int k b.1, .int k b.2])) = some (decide (b = a)) := by
 have hmd : Op.maxDepth = 9998 + 2 := by decide
 unfold Op.equal
 rw [hmd, zP (xs := [.int k a.1, .int k a.2]) (ys := [.int k b.1, .int k b.2]) 9998 hu hst hf rfl (hok _ _ _ _)]
 congr 1
 show ((a.1 == b.1) && ((a.2 == b.2) && true)) = _
 rw [dY]
 simp only [fy, cY, beq_iff_eq, decide_eq_true_eq, Prod.ext_iff]
 constructor
 ·rintro ⟨h1, h2⟩; exact ⟨h1.symm, h2.symm⟩
 ·rintro ⟨h1, h2⟩; exact ⟨h1.symm, h2.symm⟩
theorem c1A {k : IntKind} (a : Int × Int) : Instr.sameBits 10000 (.agg #[.int k a.1, .int k a.2]) (.agg #[.int k a.1, .int k a.2]) = true := by
 show ((2 : Nat) == 2 && ([(Value.int k a.1, Value.int k a.1), (Value.int k a.2, Value.int k a.2)]).all fun (x, y) => Instr.sameBits 9999 x y) = true
 have h : ∀ n, Instr.sameBits 9999 (.int k n) (.int k n) = true := fun n => by
  show (k == k && n == n) = true
  cases k <;> simp <;> rfl
 simp [h]
section
variable {H : Heap} {α : Type} {n : Nat} {cel : α → List Value} {v : Value} {xs : List α}
theorem Sl.aS (h : Sl n cel H v xs) (o : Oper) (l : List Value) (H' : Heap) (k : IntKind) (a : Int) (K : Value → Heap → Prop) (h0 : 0 < xs.length) (h1 : 0 ≤ a) (h2 : a ≤ xs.length) :
 pE P o l H' (some n) v none (some (.int k a)) K = nM (rB v n 0 a.toNat) fun v => K v H' := by
 obtain ⟨m, rfl⟩ : ∃ m, n = m + 1 := ⟨n - 1, by have := h.pos; omega⟩
 exact h.rd.aS (iM h.hc xs) o l H' k a K h0 h1 h2
theorem Sl.aR (h : Sl n cel H v xs) (o : Oper) (l : List Value) (H' : Heap) (k : IntKind) (a : Int) (K : Value → Heap → Prop) (h0 : 0 < xs.length) (h1 : 0 ≤ a) (h2 : a ≤ xs.length) :
 pE P o l H' (some n) v (some (.int k a)) none K = nM (rB v n a.toNat (xs.length - a).toNat) fun v => K v H' := by
 obtain ⟨m, rfl⟩ : ∃ m, n = m + 1 := ⟨n - 1, by have := h.pos; omega⟩
 rw [h.rd.aR (iM h.hc xs) o l H' k a K h0 h1 h2]
 congr 2
 omega
theorem Sl.sub (h : Sl n cel H v xs) (lo k : Nat) (hk : lo + k ≤ xs.length) (h0 : 0 < xs.length) : Sl n cel H (rB v n lo k) ((xs.drop lo).take k) := by
 refine ⟨?_, h.hc, h.pos⟩
 have hne : xs.flatMap cel ≠ [] := fun e => by
  have := iM h.hc xs
  rw [e, dZ] at this
  have hp := il h0 h.pos
  omega
 have := h.rd.sub lo k (by rw [iM h.hc, ← fu]; exact dK _ hk) hne
 rw [tG h.hc, a2p h.hc] at this
 exact this
theorem Sl.cD (h : Sl n cel H v xs) (k : Nat) (hk : k ≤ xs.length) (h0 : 0 < xs.length) : Sl n cel H (rB v n 0 k) (xs.take k) := by
 simpa using h.sub 0 k (by omega) h0
theorem Sl.cE (h : Sl n cel H v xs) (lo : Nat) (hk : lo ≤ xs.length) (h0 : 0 < xs.length) : Sl n cel H (rB v n lo (xs.length - lo)) (xs.drop lo) := by
 have := h.sub lo (xs.length - lo) (by omega) h0
 rwa [List.take_of_length_le (by simp)] at this
end
def a8Y (P : Program) (ts : Array TypeId) (ty : TypeId) (cx cy : Bool) (x y : Value) : Option Value := (kR P ⟨none, .call { callee := .builtin .max, args := #[oT cx 0 x, oT cy 1 y], argTypes := ts }, ty, "", #[], none⟩ [x, y] .nil).map (·.1)
theorem b8p (d : Option Tmp) (ty : TypeId) (pos : String) (af : Array Edge) (g : Option (Nat × Bool)) (ts : Array TypeId) (x y : Operand) (l : List Value) (H : Heap) (K : Value → Heap → Prop) :
 mA P ⟨d, .call { callee := .builtin .max, args := #[x, y], argTypes := ts }, ty, pos, af, g⟩ l H K = jN x l fun x' => jN y l fun y' => jS (a8Y P ts ty (lK x) (lK y) x' y') fun v => K v H := by
 have h : opD P ⟨d, .call { callee := .builtin .max, args := #[x, y], argTypes := ts }, ty, pos, af, g⟩ l H = (a8Y P ts ty (lK x) (lK y) (ev l x) (ev l y)).map fun v => (v, H) :=
  nG (P := P) ⟨d, .call { callee := .builtin .max, args := #[x, y], argTypes := ts }, ty, pos, af, g⟩ ⟨none, .call { callee := .builtin .max, args := #[oT (lK x) 0 (ev l x), oT (lK y) 1 (ev l y)], argTypes := ts }, ty, "", #[], none⟩ l [ev l x, ev l y] H
   (by cases x <;> cases y <;> rfl) (by cases x <;> cases y <;> kernel_rfl)
 have h2 : kD ((a8Y P ts ty (lK x) (lK y) (ev l x) (ev l y)).map fun v => (v, H)) K = jS (a8Y P ts ty (lK x) (lK y) (ev l x) (ev l y)) fun v => K v H := by cases a8Y P ts ty (lK x) (lK y) (ev l x) (ev l y) <;> rfl
 simp only [mA, h, jN, Op.operands, Call.operands, h2]
 simp [and_assoc]
theorem b7v (ts : Array TypeId) (ty : TypeId) (cx cy : Bool) (a b : Int) : a8Y P ts ty cx cy (.int .i64 a) (.int .i64 b) = some (.int .i64 (max a b)) := by
 have h : a8Y P ts ty cx cy (.int .i64 a) (.int .i64 b) = some (.int .i64 (if b > a then b else a)) := by cases cx <;> cases cy <;> kernel_rfl
 rw [h]
 congr 2
 split <;> omega
def b1k (P : Program) (ts : Array TypeId) (ty : TypeId) (cx cy : Bool) (x y : Value) : Option Value := (kR P ⟨none, .call { callee := .builtin .min, args := #[oT cx 0 x, oT cy 1 y], argTypes := ts }, ty, "", #[], none⟩ [x, y] .nil).map (·.1)
theorem b9U (d : Option Tmp) (ty : TypeId) (pos : String) (af : Array Edge) (g : Option (Nat × Bool)) (ts : Array TypeId) (x y : Operand) (l : List Value) (H : Heap) (K : Value → Heap → Prop) :
 mA P ⟨d, .call { callee := .builtin .min, args := #[x, y], argTypes := ts }, ty, pos, af, g⟩ l H K = jN x l fun x' => jN y l fun y' => jS (b1k P ts ty (lK x) (lK y) x' y') fun v => K v H := by
 have h : opD P ⟨d, .call { callee := .builtin .min, args := #[x, y], argTypes := ts }, ty, pos, af, g⟩ l H = (b1k P ts ty (lK x) (lK y) (ev l x) (ev l y)).map fun v => (v, H) :=
  nG (P := P) ⟨d, .call { callee := .builtin .min, args := #[x, y], argTypes := ts }, ty, pos, af, g⟩ ⟨none, .call { callee := .builtin .min, args := #[oT (lK x) 0 (ev l x), oT (lK y) 1 (ev l y)], argTypes := ts }, ty, "", #[], none⟩ l [ev l x, ev l y] H
   (by cases x <;> cases y <;> rfl) (by cases x <;> cases y <;> kernel_rfl)
 have h2 : kD ((b1k P ts ty (lK x) (lK y) (ev l x) (ev l y)).map fun v => (v, H)) K = jS (b1k P ts ty (lK x) (lK y) (ev l x) (ev l y)) fun v => K v H := by cases b1k P ts ty (lK x) (lK y) (ev l x) (ev l y) <;> rfl
 simp only [mA, h, jN, Op.operands, Call.operands, h2]
 simp [and_assoc]
theorem b7P (ts : Array TypeId) (ty : TypeId) (cx cy : Bool) (a b : Int) : b1k P ts ty cx cy (.int .i64 a) (.int .i64 b) = some (.int .i64 (min a b)) := by
 have h : b1k P ts ty cx cy (.int .i64 a) (.int .i64 b) = some (.int .i64 (if b < a then b else a)) := by cases cx <;> cases cy <;> kernel_rfl
 rw [h]
 congr 2
 split <;> omega
section
variable {H : Heap}
def Var (H : Heap) (A n : Nat) (cs : List Value) : Prop := n = cs.length ∧ ∃ ty rw lo ver, iS H A = some (.cells cs ty rw lo ver) ∧ lo ≤ cs.length
theorem Var.ae {H' : Heap} {A n : Nat} {cs : List Value} (h : Var H A n cs) (hk : ∀ B, B < H.length → iS H' B = iS H B) : Var H' A n cs := by
 obtain ⟨h1, ty, rw, lo, ver, h2, h3⟩ := h
 exact ⟨h1, ty, rw, lo, ver, by rw [hk A (jO h2), h2], h3⟩
theorem Var.ld {A n : Nat} {cs : List Value} (h : Var H A n cs) (s : Option Nat) (off : Nat) : pX (some false) s H (ptr A off n) = cs[off]? := by
 obtain ⟨rfl, ty, rw, lo, ver, h1, h2⟩ := h
 simp only [pX, jE, h1]
 by_cases h : off < cs.length
 ·rw [if_pos (by simp; omega)]
  simp only [cX]
  rw [dS (by omega), dG]
  simp
 ·rw [if_neg (by simp; omega), ef (by omega)]
  rfl
theorem Var.ag {A n : Nat} {cs : List Value} (h : Var H A n cs) (m off : Nat) : pX (some true) (some m) H (ptr A off n) = if off + m ≤ cs.length then some (.agg ((cs.drop off).take m).toArray) else none := by
 obtain ⟨rfl, ty, rw, lo, ver, h1, h2⟩ := h
 simp only [pX, jE, h1, cX]
 by_cases h : off + m ≤ cs.length
 ·rw [if_pos (by simp; omega), if_pos h]
  rfl
 ·rw [if_neg (by simp; omega), if_neg h]
  rfl
theorem St.var {P : Program} {H0 : Base} {os : List Ob} (hS : St P H0 H os) (i : Nat) {A n : Nat} {cs : List Value} (ho : os[i]? = some ⟨ptr A 0 n, 0, cs⟩) : Var H A n cs := by
 obtain ⟨h1, ty, lo, ver, h2, h3⟩ := hS.cell i ho
 exact ⟨h1, ty, true, lo, ver, h2, h3⟩
theorem St.va {H0 : Heap} {os : List Ob} (hS : St P H0 H os) {A n : Nat} {cs : List Value} (h : Var H0 A n cs) : Var H A n cs := h.ae hS.ae
end
theorem tR {P : Program} (t t2 : TypeId) (cx cy : Bool) (u x : UInt8) : kK P .add t t2 cx cy (.string ⟨#[u]⟩) (.string ⟨#[x]⟩) = some (.string ⟨#[u, x]⟩) := by
 rw [a8z _ _ _ _ _ _ (by show 1 + 1 < 9223372036854775808; decide)]
 rfl
theorem wF {P : Program} {H : Heap} {s t : TypeId} {v : Value} {n : Int} (h : RdAt H v 1 [.int .u8 n]) (hs : lF P s = true) (ht : oD P t = true) (hbt : lF P t = false) (h0 : 0 ≤ n) (h1 : n < 256) (K : Value → Heap → Prop) :
 tZ P s t H v K = K (.string ⟨#[UInt8.ofNat n.toNat]⟩) H := by
 obtain ⟨m, rfl⟩ : ∃ m : Nat, n = Int.ofNat m := ⟨n.toNat, by simp [fM h0]⟩
 have hm : m < 256 := by have : (m : Int) < 256 := h1; omega
 rcases h with ⟨_, h⟩ | ⟨A, i, e, row, ty, rw, lo, ver, k, g1, g2, g3, g4, g5, g6, rfl⟩
 ·cases h
 have hk : k = 1 := by simp at g6; omega
 subst hk
 have hc : jE H A i e 1 = some [.int .u8 (Int.ofNat m)] := by
  simp only [jE, g1]
  rw [if_pos (by simp at g4 ⊢; omega)]
  exact congrArg some g5
 have hb : nK [.int .u8 (Int.ofNat m)] = some ⟨#[UInt8.ofNat m]⟩ := by simp [nK, a2I, a1I, hm]
 have hd : opD P ⟨none, .convert s t (.const (.slice (some ⟨A, i, some e⟩) 1 1)), t, "", #[], none⟩ [] H = some (.string ⟨#[UInt8.ofNat m]⟩, H) := by
  have hf : flat (.slice (some ⟨A, i, some e⟩) 1 1) = false := rfl
  simp only [opD, ev, hf, hs, ht, hc, hb, fB, dV, if_false, Bool.and_self, if_true, cX, dM]
 unfold tZ
 rw [hd]
 apply propext
 constructor
 ·rintro ⟨v, H1, h2, h3⟩
  injection (cW h2) with e1 e2
  subst e1 e2
  exact h3
 ·intro h3
  exact ⟨_, _, rfl, h3⟩
theorem a5G {P : Program} {t : TypeId} {n : Nat} {elem : TypeId} {size : Nat} (ha : P.underlying t = some (.array n elem)) (hs : iE P elem = some size) (A i e : Nat) (k : IntKind) (j : Int) (h0 : 0 ≤ j) (h1 : j < n) :
 xG (iU P t) P t (ptr A i e) (.int k j) = some (ptr A (i + j.toNat * size) e) := by
 have hn : iU P t = none := by simp [iU, iJ, ha]
 rw [hn]
 simp only [xG, a2k, ha, ptr, hs, cX]
 rw [if_pos (by simp [h0, h1])]
end
end Go.Ds
namespace Go.Ds
section
variable {P : Program}
def c3B (inv : List Nat) (e : Edge) : Edge := { e with on := inv.getD e.on 0 }
def yT (inv : List Nat) (o : Oper) : Oper := { o with after := o.after.map (c3B inv), guard := o.guard.map fun g => (inv.getD g.1 0, g.2) }
def kE (π inv : List Nat) (ops : Array Oper) : Array Oper := (π.map fun i => yT inv (ops.getD i default)).toArray
def b0F (π inv : List Nat) (ops : Array Oper) : Bool :=
 decide (π.length = ops.size) && decide (inv.length = ops.size) && (List.range ops.size).all (fun i => decide (π.getD i 0 < ops.size) && decide (inv.getD i 0 < ops.size) && decide (inv.getD (π.getD i 0) 0 = i) && decide (π.getD (inv.getD i 0) 0 = i)) &&
 ops.toList.all fun o => o.after.toList.all (fun e => decide (e.on < ops.size)) && (match o.guard with | some g => decide (g.1 < ops.size) | none => true)
structure Perm (π inv : List Nat) (ops : Array Oper) : Prop where
 len : π.length = ops.size
 pi : ∀ i, i < ops.size → π.getD i 0 < ops.size
 iv : ∀ i, i < ops.size → inv.getD i 0 < ops.size
 ip : ∀ i, i < ops.size → inv.getD (π.getD i 0) 0 = i
 pv : ∀ i, i < ops.size → π.getD (inv.getD i 0) 0 = i
 edge : ∀ (i : Nat) (o : Oper), ops[i]? = some o → ∀ e ∈ o.after, e.on < ops.size
 guard : ∀ (i : Nat) (o : Oper) (g : Nat × Bool), ops[i]? = some o → o.guard = some g → g.1 < ops.size
theorem b9j {π inv : List Nat} {ops : Array Oper} (h : b0F π inv ops = true) : Perm π inv ops := by
 unfold b0F at h
 simp only [cY, decide_eq_true_eq, dr, dx] at h
 obtain ⟨⟨⟨h1, h2⟩, h3⟩, h4⟩ := h
 refine ⟨h1, fun i hi => (h3 i hi).1.1.1, fun i hi => (h3 i hi).1.1.2, fun i hi => (h3 i hi).1.2, fun i hi => (h3 i hi).2, fun i o ho e he => ?_, fun i o g ho hg => ?_⟩
 ·exact (h4 o (dO (i := i) (by simpa using ho))).1 e (by simpa using he)
 ·have := (h4 o (dO (i := i) (by simpa using ho))).2
  rw [hg] at this
  simpa using this
variable {π inv : List Nat} {ops : Array Oper}
theorem a7c (p : Nat) : (kE π inv ops)[p]? = (π[p]?).map fun i => yT inv (ops.getD i default) := by
 simp [kE]
theorem rF (D : Perm π inv ops) {p i : Nat} {o : Oper} (hp : p < ops.size) (hi : π.getD p 0 = i) (ho : ops[i]? = some o) : (kE π inv ops)[p]? = some (yT inv o) := by
 rw [a7c]
 have h1 : π[p]? = some i := by
  rw [db] at hi
  rw [dq (by rw [D.len]; exact hp)] at hi ⊢
  simpa using hi
 rw [h1]
 simp only [dM]
 rw [dX, ho]
 rfl
theorem qE (D : Perm π inv ops) : (kE π inv ops).size = ops.size := by simp [kE, D.len]
theorem a5P (D : Perm π inv ops) (tmps : Array Value) {j : Nat} (hj : j < ops.size) : yielded (kE π inv ops) tmps (inv.getD j 0) = yielded ops tmps j := by
 have ho : ops[j]? = some ops[j] := de.2 ⟨hj, rfl⟩
 unfold yielded
 rw [rF D (D.iv j hj) (D.pv j hj) ho, ho]
 rfl
theorem a7X (D : Perm π inv ops) (tmps : Array Value) {i : Nat} {o : Oper} (ho : ops[i]? = some o) : Region.wanted (yT inv o) (yielded (kE π inv ops) tmps) = Region.wanted o (yielded ops tmps) := by
 unfold Region.wanted
 have e : (yT inv o).guard = o.guard.map fun g => (inv.getD g.1 0, g.2) := rfl
 rw [e]
 cases hg : o.guard with
 | none => rfl
 | some g =>
   simp only [dM]
   rw [a5P D tmps (D.guard i o g ho hg)]
theorem b8Y (ro : Option Nat) (ρ : Operand → Value) (o : Oper) : (yT inv o).semAt ro ρ = o.semAt ro ρ := by
 obtain ⟨dst, op, type, pos, after, guard⟩ := o
 rfl
theorem b4v (w : World) (ρ : Operand → Value) (o : Oper) : (yT inv o).about P w ρ = o.about P w ρ := by
 obtain ⟨dst, op, type, pos, after, guard⟩ := o
 rfl
theorem b5d (F : Fence) (n : Nat) (o : Oper) (a : Act) (next : Act → World → Prop) (Q : Exit → Act → World → Prop) (r : Result Next) : (yT inv o).uponIn F n P a next Q r = o.uponIn F n P a next Q r := by
 obtain ⟨dst, op, type, pos, after, guard⟩ := o
 cases r with
 | ok x w => cases x <;> rfl
 | halt x w => cases x <;> rfl
theorem b2O (D : Perm π inv ops) (F : Fence) (n : Nat) (Q : Exit → Act → World → Prop) {i : Nat} (hi : i < ops.size) (K : Act → World → Prop) (a : Act) (w : World) :
 wpOpIn F n P (kE π inv ops) Q (inv.getD i 0) K a w = wpOpIn F n P ops Q i K a w := by
 have ho : ops[i]? = some ops[i] := de.2 ⟨hi, rfl⟩
 unfold wpOpIn
 rw [rF D (D.iv i hi) (D.pv i hi) ho, ho]
 simp only [a7X D a.tmps ho, Oper.wpIn, b4v, b5d, b8Y]
 rfl
def c2Z (inv : List Nat) (n : Nat) (listed listed' : Array Bool) : Prop := listed.size = n ∧ listed'.size = n ∧ ∀ i, i < n → listed.getD i false = listed'.getD (inv.getD i 0) false
theorem xE (D : Perm π inv ops) {listed listed' : Array Bool} (hc : c2Z inv ops.size listed listed') {i : Nat} (hi : i < ops.size) :
 i ∈ Region.ready .any ops listed ↔ inv.getD i 0 ∈ Region.ready .any (kE π inv ops) listed' := by
 have ho : ops[i]? = some ops[i] := de.2 ⟨hi, rfl⟩
 have ho' := rF D (D.iv i hi) (D.pv i hi) ho
 have hsz := qE D
 obtain ⟨c1, c2, c3⟩ := hc
 constructor
 ·intro h
  obtain ⟨o, h1, h2, h3⟩ := pI c1 h
  rw [ho] at h1
  obtain rfl := cW h1
  refine a0I (by rw [hsz]; exact c2) ho' (by rw [← c3 i hi]; exact h2) ?_
  intro e he hb
  have he' : e ∈ (ops[i]).after.map (c3B inv) := he
  obtain ⟨e0, he0, rfl⟩ := Array.mem_map.1 he'
  have := h3 e0 he0 hb
  show listed'.getD (inv.getD e0.on 0) false = true
  rw [← c3 _ (D.edge i _ ho e0 he0)]
  exact this
 ·intro h
  obtain ⟨o, h1, h2, h3⟩ := pI (by rw [hsz]; exact c2) h
  rw [ho'] at h1
  obtain rfl := cW h1
  refine a0I c1 ho (by rw [c3 i hi]; exact h2) ?_
  intro e he hb
  have := h3 (c3B inv e) (Array.mem_map.2 ⟨e, he, rfl⟩) hb
  rw [c3 _ (D.edge i _ ho e he)]
  exact this
theorem b6r (D : Perm π inv ops) (F : Fence) (k : Nat) {Q : Exit → Act → World → Prop} : ∀ (fuel : Nat) (listed listed' : Array Bool) (a : Act) (w : World), c2Z inv ops.size listed listed' →
 wpAnyIn F k P .any (kE π inv ops) Q fuel listed' a w → wpAnyIn F k P .any ops Q fuel listed a w := by
 have hsz := qE D
 have nil1 : ∀ {listed listed' : Array Bool}, c2Z inv ops.size listed listed' → (Region.ready .any ops listed = [] ↔ Region.ready .any (kE π inv ops) listed' = []) := by
  intro listed listed' hc
  constructor
  ·intro h
   cases hr : Region.ready .any (kE π inv ops) listed' with
   | nil => rfl
   | cons p r =>
     exfalso
     have hp : p ∈ Region.ready .any (kE π inv ops) listed' := by rw [hr]; exact dH ..
     obtain ⟨o, h1, _, _⟩ := pI (by rw [hsz]; exact hc.2.1) hp
     have hpn : p < ops.size := by rw [← hsz]; exact (de.1 h1).1
     have := (xE D hc (D.pi p hpn)).2 (by rw [D.ip p hpn]; exact hp)
     rw [h] at this
     cases this
  ·intro h
   cases hr : Region.ready .any ops listed with
   | nil => rfl
   | cons i r =>
     exfalso
     have hi : i ∈ Region.ready .any ops listed := by rw [hr]; exact dH ..
     obtain ⟨o, h1, _, _⟩ := pI hc.1 hi
     have := (xE D hc (de.1 h1).1).1 hi
     rw [h] at this
     cases this
 intro fuel
 induction fuel with
 | zero =>
   intro listed listed' a w hc h
   exact ⟨(nil1 hc).2 h.1, h.2⟩
 | succ fuel ih =>
   intro listed listed' a w hc h
   refine ⟨fun hn => h.1 ((nil1 hc).1 hn), fun i hi => ?_⟩
   obtain ⟨o, h1, _, _⟩ := pI hc.1 hi
   have hin := (de.1 h1).1
   have h2 := h.2 _ ((xE D hc hin).1 hi)
   rw [b2O D F k Q hin] at h2
   refine wpOpIn_mono (fun a' w' h3 => ih _ _ a' w' ⟨by simpa using hc.1, by simpa using hc.2.1, fun j hj => ?_⟩ h3) h2
   have e1 := sZ (listed := listed) (i := i) (by rw [hc.1]; exact hin) j
   have e2 := sZ (listed := listed') (i := inv.getD i 0) (by rw [hc.2.1]; exact D.iv i hin) (inv.getD j 0)
   have e3 : (inv.getD j 0 = inv.getD i 0) ↔ j = i := ⟨fun h => by rw [← D.pv j hj, h, D.pv i hin], fun h => by rw [h]⟩
   rw [dY, e1, e2, e3, hc.2.2 j hj]
end
section
variable {P : Program} {H : Heap} {π inv : List Nat} {ops : Array Oper}
theorem Sim.cG (jZ : P.follows .mixedOrders = true) {id : Nat} (Dp : Perm π inv ops) {fl : Fl} (D : Draw P fl (kE π inv ops)) {T : Nat → List Value × Heap} {val : Nat → Value} (X : Text P (kE π inv ops) T val)
 (hread : ∀ i m o, (i, m) ∈ mM fl (kE π inv ops) → (kE π inv ops)[i]? = some o → Region.wanted o (iV (kE π inv ops) (T i).1) = true → ∃ H2, opD P o (T i).1 (T m).2 = some (val i, H2)) :
 Sim P (.region id ops true) (T 0).1 (T 0).2 .normal (T ops.size).1 (T ops.size).2 := by
 intro ro k B ρ w a hr hE hl hM hB
 have hsz := qE Dp
 have := a4K D X hread ro k B hr hE hM
 rw [hsz] at this
 exact wpIn_region_any jZ (b6r Dp (fe ro) k ops.size _ _ a _ ⟨by simp, by simp, fun i hi => by
  have := Dp.iv i hi
  simp only [dX, Array.getElem?_replicate, hi, this, if_true]⟩ this)
theorem a3H (D : Perm π inv ops) (l : List Value) {j : Nat} (hj : j < ops.size) : iV (kE π inv ops) l (inv.getD j 0) = iV ops l j := by
 have ho : ops[j]? = some ops[j] := de.2 ⟨hj, rfl⟩
 unfold iV
 rw [rF D (D.iv j hj) (D.pv j hj) ho, ho]
 rfl
theorem zE (D : Perm π inv ops) (l : List Value) {i : Nat} {o : Oper} (ho : ops[i]? = some o) : Region.wanted (yT inv o) (iV (kE π inv ops) l) = Region.wanted o (iV ops l) := by
 unfold Region.wanted
 have e : (yT inv o).guard = o.guard.map fun g => (inv.getD g.1 0, g.2) := rfl
 rw [e]
 cases hg : o.guard with
 | none => rfl
 | some g =>
   simp only [dM]
   rw [a3H D l (D.guard i o g ho hg)]
theorem b2g (o : Oper) (l : List Value) (K : Value → Heap → Prop) : mA P (yT inv o) l H K = mA P o l H K := by
 obtain ⟨dst, op, type, pos, after, guard⟩ := o
 rfl
theorem a4w (D : Perm π inv ops) : ∀ (os : List Oper) (tr : List (List Value × Heap × Value)) (l : List Value) (H : Heap) (K : List (List Value × Heap × Value) → List Value → Heap → Prop), (∀ o ∈ os, ∃ i : Nat, ops[i]? = some o) →
 mL P (kE π inv ops) (os.map (yT inv)) tr l H K = mL P ops os tr l H K
 | [], _, _, _, _, _ => rfl
 | o :: os, tr, l, H, K, h => by
   obtain ⟨i, ho⟩ := h o (by simp)
   have ih := fun tr l H => a4w D os tr l H K fun o ho => h o (by simp [ho])
   rw [eG, mL, mL, zE D l ho]
   have e : (yT inv o).dst = o.dst := rfl
   simp only [b2g, e, ih]
def c3n (o : Option Oper) (os : List Oper) : List Oper := match o with | some o => o :: os | none => os
def sel (os : List Oper) : List Nat → List Oper
 | [] => []
 | i :: π => c3n os[i]? (sel os π)
theorem b9E (os : List Oper) : sel os [] = [] := rfl
theorem a8k (os : List Oper) (i : Nat) (π : List Nat) : sel os (i :: π) = c3n os[i]? (sel os π) := rfl
theorem a3M (o : Oper) (os : List Oper) : c3n (some o) os = o :: os := rfl
theorem b0d (os : List Oper) : ∀ (π : List Nat), (∀ i ∈ π, i < os.length) → sel os π = π.map fun i => os.toArray.getD i default
 | [], _ => rfl
 | i :: π, h => by
   have hi := h i (by simp)
   rw [a8k, b0d os π fun j hj => h j (by simp [hj]), dq hi, a3M, eG]
   congr 1
   simp [dX, hi]
def a0z (P : Program) (os : List Oper) (tr : List (List Value × Heap × Value)) (H1 : Heap) (π : List Nat) : List (Nat × Nat) → Prop
 | [] => True
 | (p, m) :: r => rdW P os.toArray (os[π.getD p 0]?) tr[p]? (trH tr[m]? H1) ∧ a0z P os tr H1 π r
theorem a8T (os : List Oper) (tr) (H1 : Heap) (π : List Nat) : a0z P os tr H1 π [] = True := rfl
theorem a7o (os : List Oper) (tr) (H1 : Heap) (π : List Nat) (p m : Nat) (r : List (Nat × Nat)) : a0z P os tr H1 π ((p, m) :: r) = (rdW P os.toArray (os[π.getD p 0]?) tr[p]? (trH tr[m]? H1) ∧ a0z P os tr H1 π r) := rfl
theorem a3g {os : List Oper} {tr} {H1 : Heap} {π : List Nat} : ∀ {tab : List (Nat × Nat)}, a0z P os tr H1 π tab → ∀ x ∈ tab, rdW P os.toArray (os[π.getD x.1 0]?) tr[x.1]? (trH tr[x.2]? H1)
 | [], _, x, hx => by cases hx
 | (i, m) :: r, h, x, hx => by
   rcases dR.1 hx with rfl | hx
   ·exact h.1
   ·exact a3g h.2 x hx
theorem Wp.cg (jZ : P.follows .mixedOrders = true) {id : Nat} {os : List Oper} {l : List Value} {Q : nT} (π inv : List Nat) (fl : Fl) (tab : List (Nat × Nat)) (hp : b0F π inv os.toArray = true)
 (htab : a1Z P fl (kE π inv os.toArray) = some tab) (hn : uX (kE π inv os.toArray) tab = true)
 (h : mL P os.toArray (sel os π) [] l H fun tr l1 H1 => Q .normal l1 H1 ∧ a0z P os tr H1 π tab) : Wp P (.region id os.toArray true) l H Q := by
 have Dp := b9j hp
 obtain ⟨D, htb⟩ := a3q htab
 have hsz := qE Dp
 have hmem : ∀ i ∈ π, i < os.length := fun i hi => by
  obtain ⟨p, hpl, hpe⟩ := dD.1 hi
  have := Dp.pi p (by rw [← Dp.len]; exact hpl)
  rw [db, dq hpl, fi, hpe] at this
  simpa using this
 have hsel : (sel os π).map (yT inv) = (kE π inv os.toArray).toList := by
  rw [b0d os π hmem]
  simp [kE]
 rw [← a4w Dp (sel os π) [] l H _ (fun o ho => by
  rw [b0d os π hmem, dy] at ho
  obtain ⟨i, hi, rfl⟩ := ho
  have := hmem i hi
  exact ⟨i, by simp [dX, this]⟩), hsel] at h
 obtain ⟨T, val, l', H', ext, h0, h1, h2, h3, h4, h5, h6⟩ := vL (kE π inv os.toArray).toList 0 rfl [] l H h
 have hlen : (kE π inv os.toArray).toList.length = os.toArray.size := by rw [fC, hsz]
 rw [hlen] at h1 h2 h3 h4
 have := Sim.cG jZ (id := id) Dp D (T := T) (val := val) ⟨fun k hk => by rw [hsz] at hk; simpa using h4 k hk⟩ fun i m o hm ho hw => by
  rw [← htb] at hm
  have hr := a3g h6 (i, m) hm
  have hi : i < os.toArray.size := by rw [← hsz]; exact (de.1 ho).1
  have hpi := Dp.pi i hi
  have hoo : os.toArray[π.getD i 0]? = some (os.toArray[π.getD i 0]) := de.2 ⟨hpi, rfl⟩
  have hat := rF (inv := inv) Dp hi rfl hoo
  rw [ho] at hat
  have hat := cW hat
  have hoo' : os[π.getD i 0]? = some (os.toArray[π.getD i 0]) := by rw [← hoo]; simp
  simp only [fq] at hr
  rw [hoo', h3 i hi] at hr
  unfold rdW at hr
  rw [hat, zE Dp _ hoo] at hw
  have hr := hr hw
  have hno : yY o = true := by
   unfold uX at hn
   have := dr.1 hn (i, m) hm
   simpa [ho] using this
  have hTm : trH ext[m]? H' = (T m).2 ∨ os.toArray.size < m := by
   unfold trH
   by_cases hm2 : m < os.toArray.size
   ·left; rw [h3 m hm2]
   ·by_cases hm3 : m = os.toArray.size
    ·left
     rw [ef (by omega), hm3, h1]
    ·right; omega
  rcases hTm with hTm | hTm
  ·rw [hTm, ← b2g (inv := inv), ← hat] at hr
   obtain ⟨v, H2, h7, h8⟩ := b1n hno hr
   exact ⟨H2, by rw [h7, h8]⟩
  ·exfalso
   rw [htb] at hm
   have := a2G hm
   rw [hsz] at this
   omega
 rw [h0, h1] at this
 exact ⟨_, _, _, this, h5⟩
end
def RA :=
 And.intro @b8g <| And.intro @b6m <| And.intro @b8o <| And.intro @c3i <| And.intro @c3a <| And.intro @b7J <| And.intro @b9w <| And.intro @c1U <| And.intro @b8k <| And.intro @c0o <| And.intro @b6Q <| And.intro @a8h <| And.intro @b3d <| And.intro @b7o <| And.intro @b3c <| And.intro @b0Z <| And.intro @a9T <| And.intro @a6A <| And.intro @b4W <| And.intro @a9s <| And.intro @b5N <| And.intro @b7N <| And.intro @b3N <| And.intro @b3r <| And.intro @b9F <| And.intro @b2r <| And.intro @a2Z <| And.intro @a3p <| And.intro @b0o <| And.intro @b7g <| And.intro @b2X <| And.intro @b8w <| And.intro @a3v <| And.intro @a3K <| And.intro @b5h <| And.intro @c2x <| And.intro @a8g <| And.intro @a8j <| And.intro @b3M <| And.intro @b5a <| And.intro @a5g <| And.intro @a9D <| And.intro @a8W <| And.intro @b0k <| And.intro @b0n <| And.intro @a6Q <| And.intro @a3B <| And.intro @a6d <| And.intro @a2o <| And.intro @b4l <| And.intro @b8p <| And.intro @b9U <| And.intro @b5p <| And.intro @a9r <| And.intro @b3Z <| And.intro @b2V <| And.intro @b0s <| And.intro @b0S <| And.intro @a7b <| And.intro @a7n <| And.intro @b4R <| And.intro @b2U <| And.intro @a3C <| And.intro @b1d <| And.intro @a8t <| And.intro @a3J <| And.intro @a8f <| And.intro @b0J <| And.intro @a7C <| @b6L
def RB :=
 And.intro @b9L <| And.intro @b1h <| And.intro @a9w <| And.intro @b3f <| And.intro @a9o <| And.intro @a7K <| And.intro @a7p <| And.intro @b7G <| And.intro @a6Y <| And.intro @a8o <| And.intro @c0w <| And.intro @b3X <| And.intro @b0E <| And.intro @c0A <| And.intro @b9K <| And.intro @b8z <| And.intro @b8l <| And.intro @a9X <| And.intro @a6v <| And.intro @b8K <| And.intro @c1O <| And.intro @b6n <| And.intro @a8D <| And.intro @a9a <| And.intro @b9G <| And.intro @b9r <| And.intro @b6t <| And.intro @b3t <| And.intro @b3J <| And.intro @b2M <| And.intro @b4k <| And.intro @b2I <| And.intro @b3o <| And.intro @b2y <| And.intro @b3T <| And.intro @b3V <| And.intro @b4z <| And.intro @b2v <| And.intro @b2R <| And.intro @b7A <| And.intro @b2P <| And.intro @a6e <| And.intro @b4q <| And.intro @b3w <| And.intro @b3R <| And.intro @b3O <| And.intro @b3W <| And.intro @b6s <| And.intro @b7K <| And.intro @b6z <| And.intro @b9h <| And.intro @b4I <| And.intro @a7F <| And.intro @b1g <| And.intro @a9u <| And.intro @b9a <| And.intro @b6R <| And.intro @a7B <| And.intro @b7E <| And.intro @b5S <| And.intro @b3I <| And.intro @b1j <| And.intro @b7f <| And.intro @b3a <| And.intro @a8P <| And.intro @b4e <| And.intro @b6T <| And.intro @a9J <| And.intro @b3v <| And.intro @b2H <| And.intro @b1f <| And.intro @b3q <| And.intro @a9p <| And.intro @b9E <| And.intro @a8k <| And.intro @a3M <| And.intro @a8T <| And.intro @a7o <| And.intro @b9O <| And.intro @b7H <| And.intro @b3b <| And.intro @b5Z <| And.intro @b6V <| And.intro @b4o <| And.intro @b5U <| And.intro @b2s <| And.intro @a5H <| And.intro @a9A <| And.intro @a6E <| And.intro @a9k <| And.intro @b0H <| And.intro @b5Y <| And.intro @b5W <| And.intro @b2J <| And.intro @b5G <| And.intro @a8y <| And.intro @a5m <| And.intro @a7A <| And.intro @a7h <| And.intro @a7Q <| And.intro @c4Q <| And.intro @c4R <| And.intro @c0d <| And.intro @b9A <| And.intro @b7v <| And.intro @b7P <| And.intro @b7q <| And.intro @a8V <| And.intro @b9l <| And.intro @b4X <| And.intro @b8d <| And.intro @mS <| And.intro @b5A <| And.intro @qS <| @c0t
theorem RT :
 (∀ {α : Type} (l : List α), [] ++ l = l) ∧
 (∀ {α : Type} (l : List α), l ++ [] = l) ∧
 (∀ {α : Type} {a : α} {l m : List α}, a :: l ++ m = a :: (l ++ m)) ∧
 (∀ (cs : List Value) (i : Nat) (v : Value) (vs : List Value), iX cs i (v :: vs) = iX (cs.set i v) (i + 1) vs) ∧
 (∀ (cs : List Value) (i : Nat), iX cs i [] = cs) ∧
 (∀ {α : Type} {x : α} {xs : List α} {a : α}, (x :: xs).set 0 a = a :: xs) ∧
 (∀ {α : Type} {x : α} {xs : List α} {i : Nat} {a : α}, (x :: xs).set (i + 1) a = x :: xs.set i a) ∧
 (∀ (n : Nat), 0 + n = n) ∧
 (∀ (n : Nat), n * 1 = n) ∧
 (∀ (n : Nat), n + 0 = n) :=
 ⟨@List.nil_append, @List.append_nil, @List.cons_append, @lB, @nX, @List.set_cons_zero, @List.set_cons_succ, @Nat.zero_add, @Nat.mul_one, @Nat.add_zero⟩
end Go.Ds
namespace Go.Ds
open Go.Proofs Go.Proofs.Tryz
abbrev I (n : Int) : Value := .int .i64 n
theorem sR (H : Heap) : St prog H H [] := .refl ..
theorem jZ : prog.follows .mixedOrders = true := by kernel_rfl
theorem tS3 : iE prog 3 = some 1 := by kernel_rfl
theorem b8P : iE prog 26 = some 3 := by kernel_rfl
theorem c1V : iE prog 27 = some 5 := by kernel_rfl
theorem c4g : iE prog 29 = some 3 := by kernel_rfl
theorem c5T : iE prog 32 = some 1 := by kernel_rfl
theorem c5D : iE prog 33 = some 1 := by kernel_rfl
theorem b9I : iE prog 34 = some 1 := by kernel_rfl
theorem mB : iE prog 36 = some 4 := by kernel_rfl
theorem c3K : iE prog 38 = some 1 := by kernel_rfl
theorem b4g : iE prog 39 = some 1 := by kernel_rfl
theorem pN : iE prog 41 = some 3 := by kernel_rfl
theorem a9M : iE prog 46 = some 1 := by kernel_rfl
theorem mC : iE prog 52 = some 2 := by kernel_rfl
theorem c4O : iE prog 58 = some 1 := by kernel_rfl
theorem pS : iE prog 70 = some 2 := by kernel_rfl
theorem a0g : iE prog 88 = some 2 := by kernel_rfl
theorem b8F : iE prog 89 = some 1 := by kernel_rfl
theorem zC : iE prog 91 = some 6 := by kernel_rfl
theorem kW : iE prog 100 = some 2 := by kernel_rfl
theorem b1y : iE prog 105 = some 4 := by kernel_rfl
theorem b6C : iE prog 109 = some 9 := by kernel_rfl
theorem uB : iE prog 112 = some 2 := by kernel_rfl
theorem c0L : iE prog 113 = some 1 := by kernel_rfl
theorem uJ : iE prog 115 = some 5 := by kernel_rfl
theorem wU : iE prog 116 = some 1 := by kernel_rfl
theorem oA : iE prog 118 = some 4 := by kernel_rfl
theorem b4Q : iE prog 121 = some 4 := by kernel_rfl
theorem b2a : iE prog 123 = some 4 := by kernel_rfl
theorem uE : iE prog 125 = some 5 := by kernel_rfl
theorem zY : iE prog 150 = some 3 := by kernel_rfl
theorem wY : iE prog 152 = some 2 := by kernel_rfl
theorem b6j : iE prog 173 = some 1 := by kernel_rfl
theorem b1s : iE prog 194 = some 3 := by kernel_rfl
theorem c1S : iU prog 89 = some 1 := by kernel_rfl
theorem nO : lF prog 110 = true ∧ oD prog 9 = true ∧ lF prog 9 = false := ⟨by kernel_rfl, by kernel_rfl, by kernel_rfl⟩
theorem c7F (A i e : Nat) (k : IntKind) (j : Int) (h0 : 0 ≤ j) (h1 : j < 5) : xG (iU prog 27) prog 27 (ptr A i e) (.int k j) = some (ptr A (i + j.toNat * 1) e) := a5G (n := 5) (elem := 5) (size := 1) (by kernel_rfl) (by kernel_rfl) A i e k j h0 h1
theorem c6C (A i e : Nat) (k : IntKind) (j : Int) (h0 : 0 ≤ j) (h1 : j < 3) : xG (iU prog 29) prog 29 (ptr A i e) (.int k j) = some (ptr A (i + j.toNat * 1) e) := a5G (n := 3) (elem := 28) (size := 1) (by kernel_rfl) (by kernel_rfl) A i e k j h0 h1
theorem c4i (A i e : Nat) (k : IntKind) (j : Int) (h0 : 0 ≤ j) (h1 : j < 64) : xG (iU prog 251) prog 251 (ptr A i e) (.int k j) = some (ptr A (i + j.toNat * 1) e) := a5G (n := 64) (elem := 5) (size := 1) (by kernel_rfl) (by kernel_rfl) A i e k j h0 h1
theorem c3t : mR prog 32 = some (6, 80) := by kernel_rfl
theorem c4B : ((iJ prog 32).bind (jA prog)).any jC = true := by kernel_rfl
theorem c3k : mR prog 33 = some (5, 64) := by kernel_rfl
theorem c6k : ((iJ prog 33).bind (jA prog)).any jC = true := by kernel_rfl
theorem a8U : mR prog 34 = some (5, 48) := by kernel_rfl
theorem c0z : ((iJ prog 34).bind (jA prog)).any jC = true := by kernel_rfl
theorem c2T : mR prog 38 = some (1, 8) := by kernel_rfl
theorem c4h : ((iJ prog 38).bind (jA prog)).any jC = true := by kernel_rfl
theorem b0L : mR prog 44 = some (2, 16) := by kernel_rfl
theorem c3l : ((iJ prog 44).bind (jA prog)).any jC = true := by kernel_rfl
theorem pV : mR prog 46 = some (2, 16) := by kernel_rfl
theorem a0x : ((iJ prog 46).bind (jA prog)).any jC = true := by kernel_rfl
theorem a3l : mR prog 58 = some (2, 16) := by kernel_rfl
theorem b9u : ((iJ prog 58).bind (jA prog)).any jC = true := by kernel_rfl
theorem c1N : mR prog 83 = some (3, 24) := by kernel_rfl
theorem c5M : ((iJ prog 83).bind (jA prog)).any jC = true := by kernel_rfl
theorem a3c : mR prog 89 = some (1, 8) := by kernel_rfl
theorem a7i : ((iJ prog 89).bind (jA prog)).any jC = true := by kernel_rfl
theorem b1F : mR prog 110 = some (1, 1) := by kernel_rfl
theorem b1t : ((iJ prog 110).bind (jA prog)).any jC = true := by kernel_rfl
theorem b7h : mR prog 113 = some (4, 56) := by kernel_rfl
theorem c1j : ((iJ prog 113).bind (jA prog)).any jC = true := by kernel_rfl
theorem qC : mR prog 116 = some (3, 40) := by kernel_rfl
theorem wP : ((iJ prog 116).bind (jA prog)).any jC = true := by kernel_rfl
theorem b1o : mR prog 127 = some (3, 40) := by kernel_rfl
theorem b1I : ((iJ prog 127).bind (jA prog)).any jC = true := by kernel_rfl
theorem a4v : mR prog 148 = some (2, 16) := by kernel_rfl
theorem a3T : ((iJ prog 148).bind (jA prog)).any jC = true := by kernel_rfl
theorem c4v : mR prog 155 = some (1, 16) := by kernel_rfl
theorem c5o : ((iJ prog 155).bind (jA prog)).any jC = true := by kernel_rfl
theorem c0W : mR prog 156 = some (2, 16) := by kernel_rfl
theorem c5z : ((iJ prog 156).bind (jA prog)).any jC = true := by kernel_rfl
theorem c1p : mR prog 205 = some (2, 16) := by kernel_rfl
theorem c0G : ((iJ prog 205).bind (jA prog)).any jC = true := by kernel_rfl
theorem c7d : c2L prog 89 = some (8, .int .i64 0) := by kernel_rfl
theorem c5Q (t2 : TypeId) (cx cy : Bool) (a0 : Int) (a1 : Int) (b0 : Int) (b1 : Int) : kK prog .eql 52 t2 cx cy (.agg #[.int .i64 a0, .int .i64 a1]) (.agg #[.int .i64 b0, .int .i64 b1]) = some (.bool (decide (a0 = b0 ∧ a1 = b1))) ∧ kK prog .neq 52 t2 cx cy (.agg #[.int .i64 a0, .int .i64 a1]) (.agg #[.int .i64 b0, .int .i64 b1]) = some (.bool (decide (¬ (a0 = b0 ∧ a1 = b1)))) := by
 have h := zQ (P := prog) (t := 52) (t2 := t2) (cx := cx) (cy := cy) (xs := [.int .i64 a0, .int .i64 a1]) (ys := [.int .i64 b0, .int .i64 b1]) (by kernel_rfl) (by kernel_rfl) (by kernel_rfl) (by kernel_rfl) rfl (by kernel_rfl) rfl rfl
 have e : ((List.range [Value.int .i64 a0, .int .i64 a1].length).all fun j => eqC ([Value.int .i64 a0, .int .i64 a1].getD j undef) ([Value.int .i64 b0, .int .i64 b1].getD j undef)) = decide (a0 = b0 ∧ a1 = b1) := by
  show (eqC (Value.int .i64 a0) (.int .i64 b0) && (eqC (Value.int .i64 a1) (.int .i64 b1) && true)) = _
  rw [dY]
  simp [eqC]
 rw [e] at h
 exact ⟨h.1, by rw [h.2]; simp⟩
theorem c5v (t2 : TypeId) (cx cy : Bool) (a0 : Int) (a1 : Int) (b0 : Int) (b1 : Int) : kK prog .eql 52 t2 cx cy (.agg #[.int .i64 a0, .int .i64 a1]) (.agg #[.int .i64 b0, .int .i64 b1]) = some (.bool (decide (a0 = b0 ∧ a1 = b1))) := (c5Q t2 cx cy a0 a1 b0 b1).1
theorem c6i (t2 : TypeId) (cx cy : Bool) (a0 : Int) (a1 : Int) (b0 : Int) (b1 : Int) : kK prog .neq 52 t2 cx cy (.agg #[.int .i64 a0, .int .i64 a1]) (.agg #[.int .i64 b0, .int .i64 b1]) = some (.bool (decide (¬ (a0 = b0 ∧ a1 = b1)))) := (c5Q t2 cx cy a0 a1 b0 b1).2
theorem c4K (t2 : TypeId) (cx cy : Bool) (a0 : Int) (a1 : Int) (b0 : Int) (b1 : Int) : kK prog .eql 70 t2 cx cy (.agg #[.int .i64 a0, .int .i64 a1]) (.agg #[.int .i64 b0, .int .i64 b1]) = some (.bool (decide (a0 = b0 ∧ a1 = b1))) ∧ kK prog .neq 70 t2 cx cy (.agg #[.int .i64 a0, .int .i64 a1]) (.agg #[.int .i64 b0, .int .i64 b1]) = some (.bool (decide (¬ (a0 = b0 ∧ a1 = b1)))) := by
 have h := zQ (P := prog) (t := 70) (t2 := t2) (cx := cx) (cy := cy) (xs := [.int .i64 a0, .int .i64 a1]) (ys := [.int .i64 b0, .int .i64 b1]) (by kernel_rfl) (by kernel_rfl) (by kernel_rfl) (by kernel_rfl) rfl (by kernel_rfl) rfl rfl
 have e : ((List.range [Value.int .i64 a0, .int .i64 a1].length).all fun j => eqC ([Value.int .i64 a0, .int .i64 a1].getD j undef) ([Value.int .i64 b0, .int .i64 b1].getD j undef)) = decide (a0 = b0 ∧ a1 = b1) := by
  show (eqC (Value.int .i64 a0) (.int .i64 b0) && (eqC (Value.int .i64 a1) (.int .i64 b1) && true)) = _
  rw [dY]
  simp [eqC]
 rw [e] at h
 exact ⟨h.1, by rw [h.2]; simp⟩
theorem c5s (t2 : TypeId) (cx cy : Bool) (a0 : Int) (a1 : Int) (b0 : Int) (b1 : Int) : kK prog .eql 70 t2 cx cy (.agg #[.int .i64 a0, .int .i64 a1]) (.agg #[.int .i64 b0, .int .i64 b1]) = some (.bool (decide (a0 = b0 ∧ a1 = b1))) := (c4K t2 cx cy a0 a1 b0 b1).1
theorem c5h (t2 : TypeId) (cx cy : Bool) (a0 : Int) (a1 : Int) (b0 : Int) (b1 : Int) : kK prog .neq 70 t2 cx cy (.agg #[.int .i64 a0, .int .i64 a1]) (.agg #[.int .i64 b0, .int .i64 b1]) = some (.bool (decide (¬ (a0 = b0 ∧ a1 = b1)))) := (c4K t2 cx cy a0 a1 b0 b1).2
theorem c0V (t2 : TypeId) (cx cy : Bool) (a0 : Int) (a1 : Int) (b0 : Int) (b1 : Int) : kK prog .eql 100 t2 cx cy (.agg #[.int .u64 a0, .int .u64 a1]) (.agg #[.int .u64 b0, .int .u64 b1]) = some (.bool (decide (a0 = b0 ∧ a1 = b1))) ∧ kK prog .neq 100 t2 cx cy (.agg #[.int .u64 a0, .int .u64 a1]) (.agg #[.int .u64 b0, .int .u64 b1]) = some (.bool (decide (¬ (a0 = b0 ∧ a1 = b1)))) := by
 have h := zQ (P := prog) (t := 100) (t2 := t2) (cx := cx) (cy := cy) (xs := [.int .u64 a0, .int .u64 a1]) (ys := [.int .u64 b0, .int .u64 b1]) (by kernel_rfl) (by kernel_rfl) (by kernel_rfl) (by kernel_rfl) rfl (by kernel_rfl) rfl rfl
 have e : ((List.range [Value.int .u64 a0, .int .u64 a1].length).all fun j => eqC ([Value.int .u64 a0, .int .u64 a1].getD j undef) ([Value.int .u64 b0, .int .u64 b1].getD j undef)) = decide (a0 = b0 ∧ a1 = b1) := by
  show (eqC (Value.int .u64 a0) (.int .u64 b0) && (eqC (Value.int .u64 a1) (.int .u64 b1) && true)) = _
  rw [dY]
  simp [eqC]
 rw [e] at h
 exact ⟨h.1, by rw [h.2]; simp⟩
theorem c3q (t2 : TypeId) (cx cy : Bool) (a0 : Int) (a1 : Int) (b0 : Int) (b1 : Int) : kK prog .eql 100 t2 cx cy (.agg #[.int .u64 a0, .int .u64 a1]) (.agg #[.int .u64 b0, .int .u64 b1]) = some (.bool (decide (a0 = b0 ∧ a1 = b1))) := (c0V t2 cx cy a0 a1 b0 b1).1
theorem c1X (t2 : TypeId) (cx cy : Bool) (a0 : Int) (a1 : Int) (b0 : Int) (b1 : Int) : kK prog .neq 100 t2 cx cy (.agg #[.int .u64 a0, .int .u64 a1]) (.agg #[.int .u64 b0, .int .u64 b1]) = some (.bool (decide (¬ (a0 = b0 ∧ a1 = b1)))) := (c0V t2 cx cy a0 a1 b0 b1).2
theorem c0U (t2 : TypeId) (cx cy : Bool) (a0 : Int) (a1 : Int) (b0 : Int) (b1 : Int) : kK prog .eql 152 t2 cx cy (.agg #[.int .i64 a0, .int .i64 a1]) (.agg #[.int .i64 b0, .int .i64 b1]) = some (.bool (decide (a0 = b0 ∧ a1 = b1))) ∧ kK prog .neq 152 t2 cx cy (.agg #[.int .i64 a0, .int .i64 a1]) (.agg #[.int .i64 b0, .int .i64 b1]) = some (.bool (decide (¬ (a0 = b0 ∧ a1 = b1)))) := by
 have h := zQ (P := prog) (t := 152) (t2 := t2) (cx := cx) (cy := cy) (xs := [.int .i64 a0, .int .i64 a1]) (ys := [.int .i64 b0, .int .i64 b1]) (by kernel_rfl) (by kernel_rfl) (by kernel_rfl) (by kernel_rfl) rfl (by kernel_rfl) rfl rfl
 have e : ((List.range [Value.int .i64 a0, .int .i64 a1].length).all fun j => eqC ([Value.int .i64 a0, .int .i64 a1].getD j undef) ([Value.int .i64 b0, .int .i64 b1].getD j undef)) = decide (a0 = b0 ∧ a1 = b1) := by
  show (eqC (Value.int .i64 a0) (.int .i64 b0) && (eqC (Value.int .i64 a1) (.int .i64 b1) && true)) = _
  rw [dY]
  simp [eqC]
 rw [e] at h
 exact ⟨h.1, by rw [h.2]; simp⟩
theorem c2F (t2 : TypeId) (cx cy : Bool) (a0 : Int) (a1 : Int) (b0 : Int) (b1 : Int) : kK prog .eql 152 t2 cx cy (.agg #[.int .i64 a0, .int .i64 a1]) (.agg #[.int .i64 b0, .int .i64 b1]) = some (.bool (decide (a0 = b0 ∧ a1 = b1))) := (c0U t2 cx cy a0 a1 b0 b1).1
theorem c2h (t2 : TypeId) (cx cy : Bool) (a0 : Int) (a1 : Int) (b0 : Int) (b1 : Int) : kK prog .neq 152 t2 cx cy (.agg #[.int .i64 a0, .int .i64 a1]) (.agg #[.int .i64 b0, .int .i64 b1]) = some (.bool (decide (¬ (a0 = b0 ∧ a1 = b1)))) := (c0U t2 cx cy a0 a1 b0 b1).2
theorem b0G {a1 : Int} {a2 : Int} {a3 : Int} : kN prog 29 [(0, .int .u16 a1), (1, .int .u16 a2), (2, .int .u16 a3)] = some (.agg #[.int .u16 a1, .int .u16 a2, .int .u16 a3]) := by kernel_rfl
theorem c2s {a1 : ByteArray} : kN prog 36 [(0, .string a1)] = some (.agg #[.string a1, .slice none 0 0, .slice none 0 0, .slice none 0 0]) := by kernel_rfl
theorem a5C {a1 : ByteArray} {a2 : Value} {a3 : Value} {a4 : Value} (h2 : a2.cells = #[a2] ∧ oneCell a2 = true ∧ pR a2 = true) (h3 : a3.cells = #[a3] ∧ oneCell a3 = true ∧ pR a3 = true) (h4 : a4.cells = #[a4] ∧ oneCell a4 = true ∧ pR a4 = true) : kN prog 36 [(0, .string a1), (1, a2), (2, a3), (3, a4)] = some (.agg #[.string a1, a2, a3, a4]) := by cases a2 <;> cases a3 <;> cases a4 <;> first | (exfalso; simp [oneCell] at h2; done) | (exfalso; simp [oneCell] at h3; done) | (exfalso; simp [oneCell] at h4; done) | kernel_rfl
theorem b5u {a1 : Value} {a2 : Int} (h1 : a1.cells = #[a1] ∧ oneCell a1 = true ∧ pR a1 = true) : kN prog 41 [(0, a1), (1, .int .u64 a2)] = some (.agg #[a1, .int .u64 a2, .int .u64 0]) := by cases a1 <;> first | (exfalso; simp [oneCell] at h1; done) | kernel_rfl
theorem b7B {a1 : Int} {a2 : Int} : kN prog 41 [(1, .int .u64 a1), (2, .int .u64 a2)] = some (.agg #[.slice none 0 0, .int .u64 a1, .int .u64 a2]) := by kernel_rfl
theorem qY {a1 : Int} {a2 : Int} : kN prog 52 [(0, .int .i64 a1), (1, .int .i64 a2)] = some (.agg #[.int .i64 a1, .int .i64 a2]) := by kernel_rfl
theorem c0F : kN prog 70 [] = some (.agg #[.int .i64 0, .int .i64 0]) := by kernel_rfl
theorem zT {a1 : Int} {a2 : Int} : kN prog 70 [(0, .int .i64 a1), (1, .int .i64 a2)] = some (.agg #[.int .i64 a1, .int .i64 a2]) := by kernel_rfl
theorem uW {a1 : Int} {a2 : Int} : kN prog 88 [(0, .int .i64 a1), (1, .int .i64 a2)] = some (.agg #[.int .i64 a1, .int .i64 a2]) := by kernel_rfl
theorem a5s {a1 : ByteArray} {a2 : ByteArray} {a3 : Int} {a4 : Int} {a5 : Int} : kN prog 91 [(0, .string a1), (1, .string a2), (2, .agg #[.int .i64 a3, .int .i64 a4]), (3, .int .i64 a5)] = some (.agg #[.string a1, .string a2, .int .i64 a3, .int .i64 a4, .int .i64 a5, .slice none 0 0]) := by kernel_rfl
theorem a2h {a1 : ByteArray} {a2 : ByteArray} {a3 : Int} {a4 : Int} {a5 : Int} {a6 : Value} (h6 : a6.cells = #[a6] ∧ oneCell a6 = true ∧ pR a6 = true) : kN prog 91 [(0, .string a1), (1, .string a2), (2, .agg #[.int .i64 a3, .int .i64 a4]), (3, .int .i64 a5), (4, a6)] = some (.agg #[.string a1, .string a2, .int .i64 a3, .int .i64 a4, .int .i64 a5, a6]) := by cases a6 <;> first | (exfalso; simp [oneCell] at h6; done) | kernel_rfl
theorem a7e {a1 : Int} {a2 : Int} {a3 : Int} : kN prog 94 [(0, .agg #[.int .i64 a1, .int .i64 a2]), (1, .int .i64 a3)] = some (.agg #[.int .i64 a1, .int .i64 a2, .int .i64 a3]) := by kernel_rfl
theorem b5g : kN prog 100 [] = some (.agg #[.int .u64 0, .int .u64 0]) := by kernel_rfl
theorem b9J {a1 : Int} : kN prog 100 [(0, .int .u64 a1)] = some (.agg #[.int .u64 a1, .int .u64 0]) := by kernel_rfl
theorem b2A {a1 : Int} {a2 : Int} : kN prog 100 [(0, .int .u64 a1), (1, .int .u64 a2)] = some (.agg #[.int .u64 a1, .int .u64 a2]) := by kernel_rfl
theorem b9v {a1 : Int} : kN prog 100 [(1, .int .u64 a1)] = some (.agg #[.int .u64 0, .int .u64 a1]) := by kernel_rfl
theorem a3X {a1 : Int} {a2 : Int} : kN prog 112 [(0, .int .i64 a1), (1, .int .i64 a2)] = some (.agg #[.int .i64 a1, .int .i64 a2]) := by kernel_rfl
theorem a7m {a1 : ByteArray} {a2 : Bool} {a3 : Int} {a4 : Int} : kN prog 115 [(0, .string a1), (1, .bool a2), (2, .agg #[.int .i64 a3, .int .i64 a4])] = some (.agg #[.string a1, .bool a2, .int .i64 a3, .int .i64 a4, .slice none 0 0]) := by kernel_rfl
theorem a1h {a1 : ByteArray} {a2 : Int} {a3 : Int} {a4 : Value} (h4 : a4.cells = #[a4] ∧ oneCell a4 = true ∧ pR a4 = true) : kN prog 115 [(0, .string a1), (2, .agg #[.int .i64 a2, .int .i64 a3]), (3, a4)] = some (.agg #[.string a1, .bool false, .int .i64 a2, .int .i64 a3, a4]) := by cases a4 <;> first | (exfalso; simp [oneCell] at h4; done) | kernel_rfl
theorem b2t {a1 : ByteArray} {a2 : Int} {a3 : Int} : kN prog 118 [(0, .string a1), (1, .agg #[.int .i64 a2, .int .i64 a3])] = some (.agg #[.string a1, .int .i64 a2, .int .i64 a3, .slice none 0 0]) := by kernel_rfl
theorem a7O {a1 : ByteArray} {a2 : Int} {a3 : Int} {a4 : Value} (h4 : a4.cells = #[a4] ∧ oneCell a4 = true ∧ pR a4 = true) : kN prog 118 [(0, .string a1), (1, .agg #[.int .i64 a2, .int .i64 a3]), (2, a4)] = some (.agg #[.string a1, .int .i64 a2, .int .i64 a3, a4]) := by cases a4 <;> first | (exfalso; simp [oneCell] at h4; done) | kernel_rfl
theorem a6J {a1 : ByteArray} {a2 : Int} {a3 : Int} : kN prog 125 [(0, .string a1), (1, .int .i64 a2), (2, .int .i64 a3)] = some (.agg #[.string a1, .int .i64 a2, .int .i64 a3, .int .i64 0, .bool false]) := by kernel_rfl
theorem a1A {a1 : ByteArray} {a2 : Int} {a3 : Int} {a4 : Int} {a5 : Bool} : kN prog 125 [(0, .string a1), (1, .int .i64 a2), (2, .int .i64 a3), (3, .int .i64 a4), (4, .bool a5)] = some (.agg #[.string a1, .int .i64 a2, .int .i64 a3, .int .i64 a4, .bool a5]) := by kernel_rfl
theorem c2H : kN prog 150 [] = some (.agg #[.int .i64 0, .int .i64 0, .slice none 0 0]) := by kernel_rfl
theorem lN {a1 : Int} {a2 : Int} {a3 : Value} (h3 : a3.cells = #[a3] ∧ oneCell a3 = true ∧ pR a3 = true) : kN prog 150 [(0, .int .i64 a1), (1, .int .i64 a2), (2, a3)] = some (.agg #[.int .i64 a1, .int .i64 a2, a3]) := by cases a3 <;> first | (exfalso; simp [oneCell] at h3; done) | kernel_rfl
theorem qR {a1 : Int} {a2 : Int} : kN prog 152 [(0, .int .i64 a1), (1, .int .i64 a2)] = some (.agg #[.int .i64 a1, .int .i64 a2]) := by kernel_rfl
theorem b3L {a1 : Value} {a2 : Int} {a3 : Int} (h1 : a1.cells = #[a1] ∧ oneCell a1 = true ∧ pR a1 = true) : kN prog 194 [(0, a1), (1, .agg #[.int .i64 a2, .int .i64 a3])] = some (.agg #[a1, .int .i64 a2, .int .i64 a3]) := by cases a1 <;> first | (exfalso; simp [oneCell] at h1; done) | kernel_rfl
theorem b4p {a1 : Int} {a2 : Int} : kN prog 219 [(0, .int .u64 a1), (1, .int .u64 a2)] = some (.agg #[.int .u64 a1, .int .u64 a2]) := by kernel_rfl
theorem tR7 (l : List Value) (H : Heap) : iC prog Tryz.f7 l H = some (get l 6) := rfl
theorem c6G (l : List Value) (H : Heap) : iC prog Tryz.f10 l H = some (get l 0) := rfl
theorem b1b (l : List Value) (H : Heap) : iC prog Tryz.f11 l H = some (get l 2) := rfl
theorem c7N (l : List Value) (H : Heap) : iC prog Tryz.f12 l H = pX (jT prog 36) (iE prog 36) H (get l 2) := by
 show (Option.bind (Option.bind (lS prog H 36 (get l 2)) fun v => some [v]) fun vs => _) = _
 rw [lL]
 cases pX _ _ H (get l 2) <;> rfl
theorem c6Q (l : List Value) (H : Heap) : iC prog Tryz.f13 l H = pX (jT prog 41) (iE prog 41) H (get l 4) := by
 show (Option.bind (Option.bind (lS prog H 41 (get l 4)) fun v => some [v]) fun vs => _) = _
 rw [lL]
 cases pX _ _ H (get l 4) <;> rfl
theorem c7A (l : List Value) (H : Heap) : iC prog Tryz.f14 l H = some (get l 4) := rfl
theorem c5E (l : List Value) (H : Heap) : iC prog Tryz.f15 l H = if (jR (get l 6) && (jR (get l 7) && true)) = true then some (.tuple #[get l 6, get l 7]) else none := rfl
theorem c1y (l : List Value) (H : Heap) : iC prog Tryz.f16 l H = some (get l 4) := rfl
theorem c6y (l : List Value) (H : Heap) : iC prog Tryz.f17 l H = some (get l 6) := rfl
theorem b3E (l : List Value) (H : Heap) : iC prog Tryz.f18 l H = some (get l 4) := rfl
theorem b8n (l : List Value) (H : Heap) : iC prog Tryz.f19 l H = some (get l 4) := rfl
theorem c5O (l : List Value) (H : Heap) : iC prog Tryz.f20 l H = if (jR (get l 6) && (jR (get l 7) && true)) = true then some (.tuple #[get l 6, get l 7]) else none := rfl
theorem c7I (l : List Value) (H : Heap) : iC prog Tryz.f24 l H = some (get l 4) := rfl
theorem c6r (l : List Value) (H : Heap) : iC prog Tryz.f25 l H = some (get l 6) := rfl
theorem c3v (l : List Value) (H : Heap) : iC prog Tryz.f26 l H = some (get l 4) := rfl
theorem c5i (l : List Value) (H : Heap) : iC prog Tryz.f27 l H = if (jR (get l 6) && (jR (get l 7) && true)) = true then some (.tuple #[get l 6, get l 7]) else none := rfl
theorem c5j (l : List Value) (H : Heap) : iC prog Tryz.f28 l H = if (jR (get l 6) && (jR (get l 7) && true)) = true then some (.tuple #[get l 6, get l 7]) else none := rfl
theorem c2l (l : List Value) (H : Heap) : iC prog Tryz.f29 l H = if (jR (get l 8) && (jR (get l 9) && true)) = true then some (.tuple #[get l 8, get l 9]) else none := rfl
theorem b8a (l : List Value) (H : Heap) : iC prog Tryz.f30 l H = some (get l 4) := rfl
theorem c7s (l : List Value) (H : Heap) : iC prog Tryz.f31 l H = some (get l 6) := rfl
theorem c7t (l : List Value) (H : Heap) : iC prog Tryz.f32 l H = some (get l 6) := rfl
theorem c7K (l : List Value) (H : Heap) : iC prog Tryz.f33 l H = some (get l 4) := rfl
theorem a3G (l : List Value) (H : Heap) : iC prog Tryz.f35 l H = some (get l 2) := rfl
theorem c7Q (l : List Value) (H : Heap) : iC prog Tryz.f36 l H = if (jR (get l 6) && (jR (get l 7) && true)) = true then some (.tuple #[get l 6, get l 7]) else none := rfl
theorem c6U (l : List Value) (H : Heap) : iC prog Tryz.f38 l H = some (.tuple #[]) := rfl
theorem c2A (l : List Value) (H : Heap) : iC prog Tryz.f40 l H = some (get l 4) := rfl
theorem c7C (l : List Value) (H : Heap) : iC prog Tryz.f41 l H = pX (jT prog 36) (iE prog 36) H (get l 0) := by
 show (Option.bind (Option.bind (lS prog H 36 (get l 0)) fun v => some [v]) fun vs => _) = _
 rw [lL]
 cases pX _ _ H (get l 0) <;> rfl
theorem c7y (l : List Value) (H : Heap) : iC prog Tryz.f42 l H = (pX (jT prog 100) (iE prog 100) H (get l 2)).bind fun v => if (jR v && (jR (get l 3) && true)) = true then some (.tuple #[v, get l 3]) else none := by
 show (Option.bind (Option.bind (lS prog H 100 (get l 2)) fun v => some [v, get l 3]) fun vs => _) = _
 rw [lL]
 cases pX _ _ H (get l 2) <;> rfl
theorem c7m (l : List Value) (H : Heap) : iC prog Tryz.f43 l H = pX (jT prog 91) (iE prog 91) H (get l 4) := by
 show (Option.bind (Option.bind (lS prog H 91 (get l 4)) fun v => some [v]) fun vs => _) = _
 rw [lL]
 cases pX _ _ H (get l 4) <;> rfl
theorem a9q (l : List Value) (H : Heap) : iC prog Tryz.f44 l H = pX (jT prog 118) (iE prog 118) H (get l 8) := by
 show (Option.bind (Option.bind (lS prog H 118 (get l 8)) fun v => some [v]) fun vs => _) = _
 rw [lL]
 cases pX _ _ H (get l 8) <;> rfl
theorem c6f (l : List Value) (H : Heap) : iC prog Tryz.f45 l H = some (get l 6) := rfl
theorem c6w (l : List Value) (H : Heap) : iC prog Tryz.f46 l H = some (get l 6) := rfl
theorem c7P (l : List Value) (H : Heap) : iC prog Tryz.f47 l H = some (get l 2) := rfl
theorem c7z (l : List Value) (H : Heap) : iC prog Tryz.f48 l H = some (get l 4) := rfl
theorem c7B (l : List Value) (H : Heap) : iC prog Tryz.f49 l H = some (get l 6) := rfl
theorem c6K (l : List Value) (H : Heap) : iC prog Tryz.f50 l H = some (get l 4) := rfl
theorem c4r (l : List Value) (H : Heap) : iC prog Tryz.f52 l H = some (get l 4) := rfl
theorem c6u (l : List Value) (H : Heap) : iC prog Tryz.f53 l H = (pX (jT prog 100) (iE prog 100) H (get l 2)).bind fun v => if (jR v && (jR (get l 3) && true)) = true then some (.tuple #[v, get l 3]) else none := by
 show (Option.bind (Option.bind (lS prog H 100 (get l 2)) fun v => some [v, get l 3]) fun vs => _) = _
 rw [lL]
 cases pX _ _ H (get l 2) <;> rfl
theorem c7L (l : List Value) (H : Heap) : iC prog Tryz.f54 l H = some (get l 4) := rfl
theorem c7M (l : List Value) (H : Heap) : iC prog Tryz.f55 l H = some (get l 6) := rfl
theorem c6P (l : List Value) (H : Heap) : iC prog Tryz.f56 l H = some (get l 4) := rfl
theorem c6D (l : List Value) (H : Heap) : iC prog Tryz.f57 l H = some (get l 2) := rfl
theorem c4T (l : List Value) (H : Heap) : iC prog Tryz.f58 l H = some (get l 4) := rfl
theorem c5P (l : List Value) (H : Heap) : iC prog Tryz.f59 l H = some (get l 2) := rfl
theorem c6Z (l : List Value) (H : Heap) : iC prog Tryz.f60 l H = some (get l 3) := rfl
theorem c7G (l : List Value) (H : Heap) : iC prog Tryz.f61 l H = some (get l 4) := rfl
theorem c6d (l : List Value) (H : Heap) : iC prog Tryz.f63 l H = some (get l 4) := rfl
theorem c2j (l : List Value) (H : Heap) : iC prog Tryz.f64 l H = some (get l 2) := rfl
theorem c5d (l : List Value) (H : Heap) : iC prog Tryz.f65 l H = some (get l 6) := rfl
theorem c7i (l : List Value) (H : Heap) : iC prog Tryz.f66 l H = some (get l 6) := rfl
theorem b5F (l : List Value) (H : Heap) : iC prog Tryz.f67 l H = some (get l 4) := rfl
theorem c4H (l : List Value) (H : Heap) : iC prog Tryz.f68 l H = some (get l 2) := rfl
theorem b8f (l : List Value) (H : Heap) : iC prog Tryz.f69 l H = some (get l 4) := rfl
theorem c6Y (l : List Value) (H : Heap) : iC prog Tryz.f70 l H = some (get l 4) := rfl
theorem c4F (l : List Value) (H : Heap) : iC prog Tryz.f71 l H = some (get l 2) := rfl
theorem c5f (l : List Value) (H : Heap) : iC prog Tryz.f72 l H = pX (jT prog 100) (iE prog 100) H (get l 2) := by
 show (Option.bind (Option.bind (lS prog H 100 (get l 2)) fun v => some [v]) fun vs => _) = _
 rw [lL]
 cases pX _ _ H (get l 2) <;> rfl
theorem b4w (l : List Value) (H : Heap) : iC prog Tryz.f73 l H = some (get l 2) := rfl
theorem a9O (l : List Value) (H : Heap) : iC prog Tryz.f74 l H = some (get l 2) := rfl
theorem c5B (l : List Value) (H : Heap) : iC prog Tryz.f75 l H = some (get l 4) := rfl
theorem b6v (l : List Value) (H : Heap) : iC prog Tryz.f76 l H = some (get l 4) := rfl
theorem a0M (l : List Value) (H : Heap) : iC prog Tryz.f77 l H = some (get l 4) := rfl
theorem c7h (l : List Value) (H : Heap) : iC prog Tryz.f78 l H = if (jR (get l 4) && (jR (get l 5) && true)) = true then some (.tuple #[get l 4, get l 5]) else none := rfl
theorem c1H (l : List Value) (H : Heap) : iC prog Tryz.f80 l H = some (get l 4) := rfl
theorem c7O (l : List Value) (H : Heap) : iC prog Tryz.f82 l H = some (.tuple #[]) := rfl
theorem c6F (l : List Value) (H : Heap) : iC prog Tryz.f83 l H = some (get l 6) := rfl
theorem c7b (l : List Value) (H : Heap) : iC prog Tryz.f84 l H = pX (jT prog 91) (iE prog 91) H (get l 2) := by
 show (Option.bind (Option.bind (lS prog H 91 (get l 2)) fun v => some [v]) fun vs => _) = _
 rw [lL]
 cases pX _ _ H (get l 2) <;> rfl
theorem c7l (l : List Value) (H : Heap) : iC prog Tryz.f85 l H = some (get l 2) := rfl
theorem c3T (l : List Value) (H : Heap) : iC prog Tryz.f86 l H = pX (jT prog 100) (iE prog 100) H (get l 4) := by
 show (Option.bind (Option.bind (lS prog H 100 (get l 4)) fun v => some [v]) fun vs => _) = _
 rw [lL]
 cases pX _ _ H (get l 4) <;> rfl
theorem c6X (l : List Value) (H : Heap) : iC prog Tryz.f87 l H = pX (jT prog 88) (iE prog 88) H (get l 2) := by
 show (Option.bind (Option.bind (lS prog H 88 (get l 2)) fun v => some [v]) fun vs => _) = _
 rw [lL]
 cases pX _ _ H (get l 2) <;> rfl
theorem c7J (l : List Value) (H : Heap) : iC prog Tryz.f88 l H = pX (jT prog 88) (iE prog 88) H (get l 2) := by
 show (Option.bind (Option.bind (lS prog H 88 (get l 2)) fun v => some [v]) fun vs => _) = _
 rw [lL]
 cases pX _ _ H (get l 2) <;> rfl
theorem c1E (l : List Value) (H : Heap) : iC prog Tryz.f89 l H = some (get l 4) := rfl
theorem c4d (l : List Value) (H : Heap) : iC prog Tryz.f90 l H = some (.tuple #[]) := rfl
theorem c7S (l : List Value) (H : Heap) : iC prog Tryz.f91 l H = some (get l 4) := rfl
theorem c3e (l : List Value) (H : Heap) : iC prog Tryz.f92 l H = some (get l 2) := rfl
theorem c7r (l : List Value) (H : Heap) : iC prog Tryz.f93 l H = some (.tuple #[]) := rfl
theorem c5y (l : List Value) (H : Heap) : iC prog Tryz.f94 l H = some (get l 4) := rfl
theorem c0c (l : List Value) (H : Heap) : iC prog Tryz.f97 l H = some (get l 2) := rfl
theorem c7x (l : List Value) (H : Heap) : iC prog Tryz.f98 l H = pX (jT prog 100) (iE prog 100) H (get l 4) := by
 show (Option.bind (Option.bind (lS prog H 100 (get l 4)) fun v => some [v]) fun vs => _) = _
 rw [lL]
 cases pX _ _ H (get l 4) <;> rfl
theorem c6l (l : List Value) (H : Heap) : iC prog Tryz.f99 l H = if (jR (get l 6) && (jR (get l 7) && true)) = true then some (.tuple #[get l 6, get l 7]) else none := rfl
theorem c6j (l : List Value) (H : Heap) : iC prog Tryz.f100 l H = some (get l 4) := rfl
theorem c3Q (l : List Value) (H : Heap) : iC prog Tryz.f101 l H = some (get l 2) := rfl
theorem c4u (l : List Value) (H : Heap) : iC prog Tryz.f102 l H = some (get l 2) := rfl
theorem c1r (l : List Value) (H : Heap) : iC prog Tryz.f103 l H = some (get l 4) := rfl
theorem c0T (l : List Value) (H : Heap) : iC prog Tryz.f104 l H = some (get l 4) := rfl
theorem c5K (l : List Value) (H : Heap) : iC prog Tryz.f106 l H = some (get l 6) := rfl
theorem a7v (l : List Value) (H : Heap) : iC prog Tryz.f107 l H = some (get l 2) := rfl
theorem a7V (l : List Value) (H : Heap) : iC prog Tryz.f108 l H = some (get l 2) := rfl
theorem c0J (l : List Value) (H : Heap) : iC prog Tryz.f109 l H = some (get l 2) := rfl
theorem c0P (l : List Value) (H : Heap) : iC prog Tryz.f110 l H = some (get l 2) := rfl
theorem uC (l : List Value) (H : Heap) : iC prog Tryz.f111 l H = some (get l 4) := rfl
theorem c6h (l : List Value) (H : Heap) : iC prog Tryz.f112 l H = some (get l 4) := rfl
theorem c5t (l : List Value) (H : Heap) : iC prog Tryz.f113 l H = some (get l 3) := rfl
theorem c1i (l : List Value) (H : Heap) : iC prog Tryz.f114 l H = some (get l 4) := rfl
theorem c4Y (l : List Value) (H : Heap) : iC prog Tryz.f115 l H = some (get l 4) := rfl
theorem c5S (l : List Value) (H : Heap) : iC prog Tryz.f116 l H = some (get l 2) := rfl
theorem c4G (l : List Value) (H : Heap) : iC prog Tryz.f120 l H = some (.tuple #[]) := rfl
theorem c5e (l : List Value) (H : Heap) : iC prog Tryz.f122 l H = some (get l 4) := rfl
theorem c0C (l : List Value) (H : Heap) : iC prog Tryz.f123 l H = some (get l 2) := rfl
theorem c5q (l : List Value) (H : Heap) : iC prog Tryz.f134 l H = some (get l 4) := rfl
theorem c5u (l : List Value) (H : Heap) : iC prog Tryz.f135 l H = some (.tuple #[]) := rfl
theorem c5g (l : List Value) (H : Heap) : iC prog Tryz.f136 l H = some (get l 2) := rfl
theorem c0D (l : List Value) (H : Heap) : iC prog Tryz.f145 l H = pX (jT prog 150) (iE prog 150) H (get l 4) := by
 show (Option.bind (Option.bind (lS prog H 150 (get l 4)) fun v => some [v]) fun vs => _) = _
 rw [lL]
 cases pX _ _ H (get l 4) <;> rfl
theorem b1E (l : List Value) (H : Heap) : iC prog Tryz.f146 l H = (pX (jT prog 70) (iE prog 70) H (get l 6)).bind fun v => if (jR v && (jR (get l 7) && true)) = true then some (.tuple #[v, get l 7]) else none := by
 show (Option.bind (Option.bind (lS prog H 70 (get l 6)) fun v => some [v, get l 7]) fun vs => _) = _
 rw [lL]
 cases pX _ _ H (get l 6) <;> rfl
theorem c5J (l : List Value) (H : Heap) : iC prog Tryz.f147 l H = some (get l 2) := rfl
theorem a4y (l : List Value) (H : Heap) : iC prog Tryz.f148 l H = some (get l 2) := rfl
theorem c4l (l : List Value) (H : Heap) : iC prog Tryz.f149 l H = some (get l 4) := rfl
theorem c1g (l : List Value) (H : Heap) : iC prog Tryz.f150 l H = some (get l 2) := rfl
theorem b6M (l : List Value) (H : Heap) : iC prog Tryz.f151 l H = some (get l 2) := rfl
theorem a2g (l : List Value) (H : Heap) : iC prog Tryz.f152 l H = some (get l 4) := rfl
theorem c1s (l : List Value) (H : Heap) : iC prog Tryz.f153 l H = some (get l 4) := rfl
theorem c1b (l : List Value) (H : Heap) : iC prog Tryz.f177 l H = some (get l 4) := rfl
theorem c1f (l : List Value) (H : Heap) : iC prog Tryz.f178 l H = some (get l 3) := rfl
theorem c4W (l : List Value) (H : Heap) : iC prog Tryz.f179 l H = some (get l 4) := rfl
theorem c4c (l : List Value) (H : Heap) : iC prog Tryz.f180 l H = some (get l 4) := rfl
theorem c1q (l : List Value) (H : Heap) : iC prog Tryz.f181 l H = some (get l 2) := rfl
theorem c0H (l : List Value) (H : Heap) : iC prog Tryz.f182 l H = some (get l 4) := rfl
theorem c3P (l : List Value) (H : Heap) : iC prog Tryz.f183 l H = some (get l 4) := rfl
theorem c0S (l : List Value) (H : Heap) : iC prog Tryz.f205 l H = some (get l 4) := rfl
theorem a8r : MapK prog 158 Value.string (.bool false) := MapK.str (kt := 9) (et := 4) (by kernel_rfl) (by kernel_rfl) (by kernel_rfl) rfl
theorem a7l : MapK prog 173 (fun p : Int × Int => .agg #[I p.1, I p.2]) (.bool false) := MapK.struct (kt := 52) (et := 4) (fs := (uL prog 52).toArray) (by kernel_rfl) (by kernel_rfl) (by kernel_rfl) rfl (fun b k => by cases b <;> kernel_rfl) (fun a b => c2K (by kernel_rfl) (by kernel_rfl) (by kernel_rfl) (fun _ _ _ _ => by kernel_rfl) a b) (fun k => c1A k)
theorem tt0 : jT prog 3 = some false ∧ jT prog 4 = some false ∧ iE prog 4 = some 1 ∧ jT prog 5 = some false ∧ iE prog 5 = some 1 ∧ jT prog 9 = some false ∧ iE prog 9 = some 1 ∧ jT prog 22 = some false ∧ iE prog 22 = some 1 ∧ jT prog 23 = some false ∧ iE prog 23 = some 1 ∧ jT prog 24 = some false ∧ iE prog 24 = some 1 ∧ jT prog 26 = some true ∧ jT prog 27 = some true ∧ jT prog 28 = some false ∧ iE prog 28 = some 1 ∧ jT prog 29 = some true ∧ jT prog 32 = some false ∧ jT prog 33 = some false ∧ jT prog 34 = some false ∧ jT prog 36 = some true ∧ jT prog 38 = some false ∧ jT prog 39 = some false ∧ jT prog 41 = some true ∧ jT prog 46 = some false ∧ jT prog 52 = some true ∧ jT prog 58 = some false ∧ jT prog 70 = some true ∧ jT prog 88 = some true ∧ jT prog 89 = some false ∧ jT prog 91 = some true ∧ jT prog 94 = some true ∧ iE prog 94 = some 3 ∧ jT prog 100 = some true ∧ jT prog 103 = some false ∧ iE prog 103 = some 1 ∧ jT prog 105 = some true ∧ jT prog 107 = some false ∧ iE prog 107 = some 1 := by and_intros <;> kernel_rfl
theorem tt1 : jT prog 109 = some true ∧ jT prog 112 = some true ∧ jT prog 113 = some false ∧ jT prog 115 = some true ∧ jT prog 116 = some false ∧ jT prog 118 = some true ∧ jT prog 121 = some true ∧ jT prog 123 = some true ∧ jT prog 125 = some true ∧ jT prog 148 = some false ∧ iE prog 148 = some 1 ∧ jT prog 150 = some true ∧ jT prog 152 = some true ∧ jT prog 173 = some false ∧ jT prog 194 = some true ∧ iU prog 22 = some 9 ∧ iU prog 23 = some 4 ∧ iU prog 24 = some 4 ∧ iU prog 32 = some 6 ∧ iU prog 33 = some 5 ∧ iU prog 34 = some 5 ∧ iU prog 38 = some 1 ∧ iU prog 44 = some 2 ∧ iU prog 46 = some 2 ∧ iU prog 58 = some 2 ∧ iU prog 83 = some 3 ∧ iU prog 103 = some 4 ∧ iU prog 110 = some 1 ∧ iU prog 113 = some 4 ∧ iU prog 116 = some 3 ∧ iU prog 127 = some 3 ∧ iU prog 148 = some 2 ∧ iU prog 155 = some 1 ∧ iU prog 156 = some 2 ∧ iU prog 205 = some 2 ∧ lM prog 32 = true ∧ lM prog 33 = true ∧ lM prog 34 = true ∧ lM prog 38 = true ∧ lM prog 44 = true := by and_intros <;> kernel_rfl
theorem tt2 : lM prog 46 = true ∧ lM prog 58 = true ∧ lM prog 83 = true ∧ lM prog 89 = true ∧ lM prog 110 = true ∧ lM prog 113 = true ∧ lM prog 116 = true ∧ lM prog 127 = true ∧ lM prog 148 = true ∧ lM prog 155 = true ∧ lM prog 156 = true ∧ lM prog 205 = true ∧ iU prog 9 = none ∧ oD prog 9 = true ∧ iY prog 26 0 = some 0 ∧ iY prog 26 1 = some 1 ∧ iY prog 26 2 = some 2 ∧ iY prog 36 0 = some 0 ∧ iY prog 36 1 = some 1 ∧ iY prog 36 2 = some 2 ∧ iY prog 36 3 = some 3 ∧ iY prog 41 0 = some 0 ∧ iY prog 41 1 = some 1 ∧ iY prog 41 2 = some 2 ∧ iY prog 52 0 = some 0 ∧ iY prog 52 1 = some 1 ∧ iY prog 70 0 = some 0 ∧ iY prog 70 1 = some 1 ∧ iY prog 88 0 = some 0 ∧ iY prog 88 1 = some 1 ∧ iY prog 91 0 = some 0 ∧ iY prog 91 1 = some 1 ∧ iY prog 91 2 = some 2 ∧ iY prog 91 3 = some 4 ∧ iY prog 91 4 = some 5 ∧ iY prog 100 0 = some 0 ∧ iY prog 100 1 = some 1 ∧ iY prog 105 0 = some 0 ∧ iY prog 105 1 = some 1 ∧ iY prog 105 2 = some 2 := by and_intros <;> kernel_rfl
theorem tt3 : iY prog 105 3 = some 3 ∧ iY prog 109 0 = some 0 ∧ iY prog 109 1 = some 1 ∧ iY prog 109 2 = some 2 ∧ iY prog 109 3 = some 3 ∧ iY prog 109 4 = some 4 ∧ iY prog 112 0 = some 0 ∧ iY prog 112 1 = some 1 ∧ iY prog 115 0 = some 0 ∧ iY prog 115 2 = some 2 ∧ iY prog 115 3 = some 4 ∧ iY prog 118 0 = some 0 ∧ iY prog 118 1 = some 1 ∧ iY prog 118 2 = some 3 ∧ iY prog 121 0 = some 0 ∧ iY prog 121 1 = some 1 ∧ iY prog 121 2 = some 2 ∧ iY prog 121 3 = some 3 ∧ iY prog 123 0 = some 0 ∧ iY prog 123 1 = some 1 ∧ iY prog 123 2 = some 2 ∧ iY prog 123 3 = some 3 ∧ iY prog 125 0 = some 0 ∧ iY prog 125 1 = some 1 ∧ iY prog 125 2 = some 2 ∧ iY prog 125 3 = some 3 ∧ iY prog 125 4 = some 4 ∧ iY prog 150 0 = some 0 ∧ iY prog 150 1 = some 1 ∧ iY prog 150 2 = some 2 ∧ iY prog 152 0 = some 0 ∧ iY prog 152 1 = some 1 ∧ iY prog 194 0 = some 0 ∧ iY prog 194 1 = some 1 ∧ jA prog 36 = some (.agg #[.string ⟨#[]⟩, .slice none 0 0, .slice none 0 0, .slice none 0 0]) ∧ jU prog 36 = none ∧ jA prog 41 = some (.agg #[.slice none 0 0, .int .u64 0, .int .u64 0]) ∧ jU prog 41 = none ∧ jA prog 46 = some (.slice none 0 0) ∧ jU prog 46 = none := by and_intros <;> kernel_rfl
theorem tt4 : jA prog 52 = some (.agg #[.int .i64 0, .int .i64 0]) ∧ jU prog 52 = none ∧ jA prog 70 = some (.agg #[.int .i64 0, .int .i64 0]) ∧ jU prog 70 = none ∧ jA prog 88 = some (.agg #[.int .i64 0, .int .i64 0]) ∧ jU prog 88 = none ∧ jA prog 91 = some (.agg #[.string ⟨#[]⟩, .string ⟨#[]⟩, .int .i64 0, .int .i64 0, .int .i64 0, .slice none 0 0]) ∧ jU prog 91 = none ∧ jA prog 100 = some (.agg #[.int .u64 0, .int .u64 0]) ∧ jU prog 100 = none ∧ jA prog 105 = some (.agg #[.int .u8 0, .int .u8 0, .bool false, .slice none 0 0]) ∧ jU prog 105 = none ∧ jA prog 112 = some (.agg #[.int .i64 0, .int .i64 0]) ∧ jU prog 112 = none ∧ jA prog 115 = some (.agg #[.string ⟨#[]⟩, .bool false, .int .i64 0, .int .i64 0, .slice none 0 0]) ∧ jU prog 115 = none ∧ jA prog 118 = some (.agg #[.string ⟨#[]⟩, .int .i64 0, .int .i64 0, .slice none 0 0]) ∧ jU prog 118 = none ∧ jA prog 123 = some (.agg #[.int .u8 0, .int .u8 0, .int .i8 0, .bool false]) ∧ jU prog 123 = none ∧ jA prog 125 = some (.agg #[.string ⟨#[]⟩, .int .i64 0, .int .i64 0, .int .i64 0, .bool false]) ∧ jU prog 125 = none ∧ jA prog 150 = some (.agg #[.int .i64 0, .int .i64 0, .slice none 0 0]) ∧ jU prog 150 = none ∧ jA prog 152 = some (.agg #[.int .i64 0, .int .i64 0]) ∧ jU prog 152 = none ∧ jA prog 173 = some (.map none) ∧ jU prog 173 = none ∧ a0H prog 3 = some .i64 ∧ a0H prog 5 = some .u8 ∧ a0H prog 28 = some .u16 ∧ a0H prog 39 = some .u64 ∧ a0H prog 72 = some .u64 ∧ a0H prog 107 = some .i8 := by and_intros <;> kernel_rfl
def TS := (And.intro (And.intro (And.intro (And.intro (And.intro @tt0 (And.intro @tt1 @tt2)) (And.intro @tt3 (And.intro @tt4 @tS3))) (And.intro (And.intro @b8P (And.intro @c1V @c4g)) (And.intro @c5T (And.intro @c5D @b9I)))) (And.intro (And.intro (And.intro @mB (And.intro @c3K @b4g)) (And.intro @pN (And.intro @a9M @mC))) (And.intro (And.intro @c4O (And.intro @pS @a0g)) (And.intro (And.intro @b8F @zC) (And.intro @kW @b1y))))) (And.intro (And.intro (And.intro (And.intro @b6C (And.intro @uB @c0L)) (And.intro @uJ (And.intro @wU @oA))) (And.intro (And.intro @b4Q (And.intro @b2a @uE)) (And.intro @zY (And.intro @wY @b6j)))) (And.intro (And.intro (And.intro @b1s (And.intro @c1S @c7F)) (And.intro @c6C (And.intro @c4i @c5v))) (And.intro (And.intro @c6i (And.intro @c5s @c5h)) (And.intro (And.intro @c3q @c1X) (And.intro @c2F @c2h))))))
def RZ := And.intro @RB (And.intro @RC @TS)
end Go.Ds
