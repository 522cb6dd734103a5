/-
  A part of the proof of DemandBounds.
-/
import Derived.Test.YtfjdhdefmcfepaaGreatDoorVA
import Derived.Test.YtfjdhdefmcfepaaGreatDoorVB
import Derived.Test.YtfjdhdefmcfepaaGreatDoorProg
import Derived.KernelRfl
import Derived.Lib.LaidTab
import Derived.Stop.LaidErr
import Derived.Laws.Strings
set_option linter.unusedVariables false
set_option linter.unusedSimpArgs false
set_option linter.defProp false
set_option linter.unusedSectionVars false
namespace Go.Ds
noncomputable section
inductive Pth where
 | z
 | l (p : Pth)
 | r (p : Pth)
inductive Fr where
 | e
 | n (v : Value) (l r : Fr)
def a5q : Nat → Nat → Pth := fun f => Nat.rec (motive := fun _ => Nat → Pth) (fun _ => .z) (fun _ ih k => Nat.rec (motive := fun _ => Pth) .z (fun k _ => Bool.rec (motive := fun _ => Pth) (.r (ih (Nat.div k 2))) (.l (ih (Nat.div k 2))) (Nat.beq (Nat.mod k 2) 0)) k) f
def kO (k : Nat) : Pth := a5q k k
def nT (p : Pth) : Fr → Value := Pth.rec (motive := fun _ => Fr → Value)
 (fun f => Fr.rec (motive := fun _ => Value) undef (fun v _ _ _ _ => v) f)
 (fun _ ih f => Fr.rec (motive := fun _ => Value) undef (fun _ l _ _ _ => ih l) f)
 (fun _ ih f => Fr.rec (motive := fun _ => Value) undef (fun _ _ r _ _ => ih r) f) p
def pT {α : Type} (v : Value) (p : Pth) : Fr → (Fr → α) → α := Pth.rec (motive := fun _ => Fr → (Fr → α) → α)
 (fun f K => Fr.rec (motive := fun _ => α) (K (.n v .e .e)) (fun _ l r _ _ => K (.n v l r)) f)
 (fun _ ih f K => Fr.rec (motive := fun _ => α) (ih .e fun l => K (.n undef l .e)) (fun w l r _ _ => ih l fun l => K (.n w l r)) f)
 (fun _ ih f K => Fr.rec (motive := fun _ => α) (ih .e fun r => K (.n undef .e r)) (fun w l r _ _ => ih r fun r => K (.n w l r)) f) p
def lJ {α : Type} (p : Pth) : (Pth → α) → α := Pth.rec (motive := fun _ => (Pth → α) → α) (fun K => K .z) (fun _ ih K => ih fun p => K (.l p)) (fun _ ih K => ih fun p => K (.r p)) p
inductive LArg where
 | t (p : Pth)
 | c (v : Value)
def mL (f : Fr) (x : LArg) : Value := LArg.rec (motive := fun _ => Value) (fun p => nT p f) (fun v => v) x
inductive Rs where
 | no
 | ok (v : Value) (H : Heap)
 | th (v : Value) (H : Heap)
def oE {α : Type} (v : Value) (K : Value → α) : α :=
 match v with
 | .bool b => K (.bool b)
 | .int k n => K (.int k n)
 | .string s => K (.string s)
 | .pointer a => K (.pointer a)
 | .slice a n c => K (.slice a n c)
 | .map r => K (.map r)
 | .func fn a b => K (.func fn a b)
 | .agg cs => K (.agg cs)
 | .tuple vs => K (.tuple vs)
 | v => K v
inductive LOp where
 | bad
 | mv (x : LArg)
 | pick (c a b : LArg)
 | bin (g : IntKind → Int → Int → Option Value) (x y : LArg)
 | not (x : LArg)
 | ld1 (x : LArg)
 | ldn (n : Nat) (x : LArg)
 | st (n : Nat) (x y : LArg)
 | fa (off : Nat) (x : LArg)
 | ixs (size : Nat) (x i : LArg)
 | ixa (n size : Nat) (x i : LArg)
 | ext (i : Nat) (x : LArg)
 | f1 (off : Nat) (x : LArg)
 | fn (off n : Nat) (x : LArg)
 | len (x : LArg)
 | slen (x : LArg)
 | app (elem size bytes : Nat) (x y : LArg)
 | alloc (t : TypeId) (cs : List Value)
 | callF (f : FuncId) (p : Pth) (args : List LArg)
 | callV (g : LArg) (args : List LArg)
 | gen (o : Oper)
inductive LOps where
 | nil
 | cons (d : Option Pth) (o : LOp) (rest : LOps)
 | gcons (p : Pth) (w : Bool) (d : Option Pth) (o : LOp) (rest : LOps)
inductive LCode where
 | bad
 | skip
 | reg (ops : LOps)
 | drw (ops : LOps) (tab : List (Nat × Option Nat × Option (Pth × Bool) × LOp))
 | seq (a b : LCode)
 | cond (c : LArg) (x y : LCode)
 | block (id : Nat) (b : LCode)
 | loop (b : LCode)
 | exit (id : Nat)
 | ret
 | range (g : LArg) (ps : List Pth) (pp : List Pth) (params : Array Tmp) (assign body : Code) (a b : LCode)
inductive LRes where
 | t (p : Pth)
 | c1 (p : Pth)
 | cn (n : Nat) (p : Pth)
structure LFunc where
 ps : List Pth
 body : LCode
 res : List LRes
inductive LT where
 | e
 | n (g : Option LFunc) (l r : LT)
def a1A (p : Pth) : LT → Option LFunc := Pth.rec (motive := fun _ => LT → Option LFunc)
 (fun f => LT.rec (motive := fun _ => Option LFunc) none (fun v _ _ _ _ => v) f)
 (fun _ ih f => LT.rec (motive := fun _ => Option LFunc) none (fun _ l _ _ _ => ih l) f)
 (fun _ ih f => LT.rec (motive := fun _ => Option LFunc) none (fun _ _ r _ _ => ih r) f) p
def sB {α : Type} (v : LFunc) (p : Pth) : LT → (LT → α) → α := Pth.rec (motive := fun _ => LT → (LT → α) → α)
 (fun f K => LT.rec (motive := fun _ => α) (K (.n (some v) .e .e)) (fun _ l r _ _ => K (.n (some v) l r)) f)
 (fun _ ih f K => LT.rec (motive := fun _ => α) (ih .e fun l => K (.n none l .e)) (fun w l r _ _ => ih l fun l => K (.n w l r)) f)
 (fun _ ih f K => LT.rec (motive := fun _ => α) (ih .e fun r => K (.n none .e r)) (fun w l r _ _ => ih r fun r => K (.n w l r)) f) p
structure LEnv where
 L : Nat
 ps : List Pth
 pp : List Pth
 a : LCode
 b : LCode
def b9t (P : Program) (o : Oper) (ρ : Operand → Value) (H : Heap) : Option (Value × Heap) :=
 if o.op.operands.toList.all (fun x => flat (ρ x)) then
  match iL P (execOp ρ o) with
  | some (.value v) => if flat v then some (v, H) else none
  | _ => none
 else none
def c1L (P : Program) (o : Oper) (ρ : Operand → Value) (H : Heap) : Option (Value × Heap) :=
 let keep (v : Option Value) : Option (Value × Heap) := v.map fun v => (v, H)
 let plain : Option (Value × Heap) := b9t P o ρ H
 match o.op with
 | .move x | .assign x => some (ρ x, H)
 | .pick c a b => match ρ c with | .bool t => some (if t then ρ a else ρ b, H) | _ => none
 | .alloc t => (jA P t).bind fun z => if jB z then qM P H t z else none
 | .box t x => wH P H t (ρ x)
 | .build t parts =>
   let ps := parts.toList.map fun (i, x) => (i, ρ x)
   if (jA P t).any jB && ps.all (fun x => x.2.cells.toList.all oneCell) then
    (P.built t ps).map fun cs => (.agg cs, H)
   else none
 | .buildSlice t len parts =>
   (iG P t).bind fun elem => (iD P elem).bind fun size => (jA P elem).bind fun z =>
   let ps := parts.toList.map fun (i, x) => (i, ρ x)
   if len == 0 && ps.isEmpty && size != 0 then some (.slice (some ⟨H.length, 0, some 0⟩) 0 size, rJ H elem []) else
   if jB z && ps.all (fun x => x.2.cells.toList.all oneCell) && len * size ≤ 2 ^ 24 && len * size != 0 && z.cells.size == size then
    (Instr.fill (fun i => some (i * size, size)) ((Array.range (len * size)).map (z.cells[· % z.cells.size]!)) ps).map fun cs =>
      (.slice (some ⟨H.length, 0, some cs.toList.length⟩) len size, rJ H elem cs.toList)
   else none
 | .makeSlice t n c =>
   (iG P t).bind fun elem => (iD P elem).bind fun size => (nM P elem).bind fun bytes => (jA P elem).bind fun z =>
   match ρ n, ρ c with
   | .int .i64 a, .int .i64 b =>
     if jB z && decide (a ≤ b) && 0 ≤ a && b * (bytes + 1) ≤ (oS : Int) && size != 0 && z.cells.size == size then
      let cs := if size = 1 then List.replicate b.toNat (z.cells[0]!) else (madeCells z.cells (b.toNat * size)).toList
      some (.slice (some ⟨H.length, 0, some cs.length⟩) a.toNat size, rJ H elem cs)
     else none
   | _, _ => none
 | .load t a => keep (lM P H t (ρ a))
 | .store t a x => (qU P H t (ρ a) (ρ x)).map fun H => (undef, H)
 | .nilCheck x => match ρ x with
   | .pointer (some a) => some (.pointer (some a), H)
   | .func (.func f) a b => some (.func (.func f) a b, H)
   | _ => none
 | .fieldAddr s x f => match ρ x with
   | .pointer (some ⟨A, i, some e⟩) => (oK P s f).bind fun fd => (iD P fd.type).bind fun n => if n == 0 then none else some (.pointer (some ⟨A, i + fd.offset, some e⟩), H)
   | _ => none
 | .indexAddr t x ix => match P.underlying t, ρ x, ρ ix with
   | some (.slice elem), .slice (some ⟨A, i, some e⟩) n _, .int _ j => (iD P elem).bind fun size =>
     if 0 ≤ j && j < n then some (.pointer (some ⟨A, i + j.toNat * size, some e⟩), H) else none
   | some (.array n elem), .pointer (some ⟨A, i, some e⟩), .int _ j => (iD P elem).bind fun size =>
     if 0 ≤ j && j < n then some (.pointer (some ⟨A, i + j.toNat * size, some e⟩), H) else none
   | some (.array n elem), .pointer (some ⟨A, i, none⟩), .int _ j => (iD P elem).bind fun size =>
     if 0 ≤ j && j < n then some (.pointer (some ⟨A, i + j.toNat * size, none⟩), H) else none
   | _, _, _ => none
 | .slice t x lo hi none => if flat (ρ x) then plain else match jO P t with
   | some (n, elem) => keep (a5x P H n elem (ρ x) (lo.map ρ) (hi.map ρ))
   | none => keep (wF P t (ρ x) (lo.map ρ) (hi.map ρ))
 | .field t x f => if flat (ρ x) then plain else
   match ρ x with
   | .agg cs => (oK P t f).bind fun fd => match jN P fd.type with
     | some true => (iD P fd.type).map fun n => (.agg (cs.extract fd.offset (fd.offset + n)), H)
     | some false => (cs[fd.offset]?).map fun v => (v, H)
     | none => none
   | _ => none
 | .extract t i => match ρ t with
   | .tuple vs => (vs[i]?).map fun v => (v, H)
   | _ => none
 | .makeFunc fn first captured => match fn with
   | .func f => if (first ++ captured).toList.all (fun x => pO (ρ x)) then some (.func (.func f) (first.map ρ) (captured.map ρ), H) else none
   | _ => none
 | .binOp op t x y _ => match op, ρ x, ρ y with
   | .eql, .slice (some _) _ _, .slice none 0 0 => if ((P.underlying t).map vA) == some true then some (.bool false, H) else none
   | .neq, .slice (some _) _ _, .slice none 0 0 => if ((P.underlying t).map vA) == some true then some (.bool true, H) else none
   | op, .int k a, .int k' b => if k = k' then (match mI op k a b with | some v => some (v, H) | none => plain) else plain
   | .eql, .pointer (some _), .pointer none => if tP P t then some (.bool false, H) else none
   | .neq, .pointer (some _), .pointer none => if tP P t then some (.bool true, H) else none
   | .eql, .pointer (some ⟨A, i, some e⟩), .pointer (some ⟨A', i', some e'⟩) => if tP P t && A == A' && i == i' && e == e' then some (.bool true, H) else none
   | .neq, .pointer (some ⟨A, i, some e⟩), .pointer (some ⟨A', i', some e'⟩) => if tP P t && A == A' && i == i' && e == e' then some (.bool false, H) else none
   | _, _, _ => plain
 | .call c => match c.callee with
   | .builtin .len => if c.args.size == 1 && c.argTypes.size == 1 then
      match (P.underlying (c.argTypes.getD 0 0)), ρ (c.args.getD 0 (.tmp 0)) with
      | some (.slice _), .slice a n k => keep (wY H (.slice a n k))
      | some .string, .string s => keep (wY H (.string s))
      | some (.map _ _), .map r => keep (wY H (.map r))
      | _, _ => none
     else none
   | .builtin .append => if c.args.size == 2 && c.argTypes.size == 2 && ((P.underlying (c.argTypes.getD 1 0)).map pS) == some true then
      nH P H (c.argTypes.getD 0 0) (ρ (c.args.getD 0 (.tmp 0))) (ρ (c.args.getD 1 (.tmp 0)))
     else none
   | .builtin .copy => if c.args.size == 2 && c.argTypes.size == 2 then a0u P H (c.argTypes.getD 0 0) (ρ (c.args.getD 0 (.tmp 0))) (ρ (c.args.getD 1 (.tmp 0))) else none
   | .builtin .clear => if c.args.size == 1 && c.argTypes.size == 1 then tE P H (c.argTypes.getD 0 0) (ρ (c.args.getD 0 (.tmp 0))) else none
   | .builtin .cap => plain
   | .builtin .unsafeSliceData => if c.args.size == 1 && c.argTypes.size == 1 then match ρ (c.args.getD 0 (.tmp 0)) with
      | .slice (some a) n _ => if n == 0 then none else some (.pointer (some a), H)
      | _ => none
     else none
   | .builtin .unsafeString => if c.args.size == 2 && c.argTypes.size == 2 then uY P H (c.argTypes.getD 0 0) (ρ (c.args.getD 0 (.tmp 0))) (ρ (c.args.getD 1 (.tmp 0))) else none
   | .builtin .max => plain
   | .builtin .min => plain
   | _ => none
 | .unOp op _ x => match op, ρ x with
   | .not, .bool b => some (.bool (!b), H)
   | _, _ => plain
 | .makeMap t r => pQ P H t (r.map ρ)
 | .lookup t x k c => keep (pG P H t (ρ x) (ρ k) c)
 | .mapUpdate t m k v => (a0P P H t (ρ m) (ρ k) (ρ v)).map fun H => (undef, H)
 | .mapEntry t m k => sQ P H t (ρ m) (ρ k)
 | .entryStore _ m b v => (rK H (ρ m) (ρ b) (ρ v)).map fun H => (undef, H)
 | .convert s t x => if flat (ρ x) && !(kZ P t) then plain else match ρ x with
   | .slice (some ⟨A, i, some e⟩) n _ => if kZ P s && nZ P t then keep ((jD H A i e n).bind fun l => (nE l).map .string) else none
   | .string b => if kZ P t && nZ P s && b.size ≤ 2 ^ 40 then (iG P t).bind fun elem => some (.slice (some ⟨H.length, 0, some b.size⟩) b.size 1, b5O H elem (b.data.toList.map fun c => .int .u8 c.toNat)) else none
   | .pointer (some ⟨A, 0, some e⟩) => if a3I P H s t A e then some (.pointer (some ⟨A, 0, some e⟩), H) else none
   | _ => none
 | .index _ _ _ => plain
 | .makeInterface _ _ => plain
 | _ => none
def nR {α : Type} (b : Bool) (no : α) (x : α) : α := Bool.rec (motive := fun _ => α) no x b
def a7f {α : Type} (cs : List α) : Nat → Bool := List.rec (motive := fun _ => Nat → Bool) (fun e => Nat.beq e 0) (fun _ _ ih e => Nat.rec (motive := fun _ => Bool) true (fun m _ => ih m) e) cs
def a3V {α : Type} (cs : List α) : Nat → Bool := List.rec (motive := fun _ => Nat → Bool) (fun e => Nat.beq e 0) (fun _ _ ih e => Nat.rec (motive := fun _ => Bool) false (fun m _ => ih m) e) cs
def a0V {α : Type} (cs : List α) : Nat → Option α := List.rec (motive := fun _ => Nat → Option α) (fun _ => none) (fun v _ ih e => Nat.rec (motive := fun _ => Option α) (some v) (fun m _ => ih m) e) cs
def a1V {α : Type} (cs : List α) : Nat → (List α → Rs) → Rs := List.rec (motive := fun _ => Nat → (List α → Rs) → Rs) (fun n K => Nat.rec (motive := fun _ => Rs) (K []) (fun _ _ => .no) n) (fun v _ ih n K => Nat.rec (motive := fun _ => Rs) (K []) (fun m _ => ih m fun l => K (v :: l)) n) cs
def b1D {α : Type} (cs : List α) : Nat → List α := List.rec (motive := fun _ => Nat → List α) (fun _ => []) (fun v t ih n => Nat.rec (motive := fun _ => List α) (v :: t) (fun m _ => ih m) n) cs
def kIx (k : IntKind) : Nat := IntKind.rec (motive := fun _ => Nat) 0 1 2 3 4 5 6 7 k
def hMv (x : LArg) (f : Fr) (H : Heap) : Rs := oE (mL f x) fun v => .ok v H
def b5R (c a b : LArg) (f : Fr) (H : Heap) : Rs := match mL f c with
 | .bool t => oE (mL f (Bool.rec (motive := fun _ => LArg) b a t)) fun v => .ok v H
 | _ => .no
def oV (v : Option Value) (H : Heap) : Rs := Option.rec (motive := fun _ => Rs) .no (fun v => .th v H) v
def c0y (g : IntKind → Int → Int → Option Value) (k : IntKind) (a : Int) (H : Heap) (y : Value) : Rs := match y with
 | .int k' b => nR (Nat.beq (kIx k) (kIx k')) .no (oV (g k a b) H)
 | _ => .no
def c2i (g : IntKind → Int → Int → Option Value) (x y : LArg) (f : Fr) (H : Heap) : Rs := match mL f x with
 | .int k a => c0y g k a H (mL f y)
 | _ => .no
def c5Y (x : LArg) (f : Fr) (H : Heap) : Rs := match mL f x with
 | .bool b => .ok (.bool (Bool.rec (motive := fun _ => Bool) true false b)) H
 | _ => .no
def b9h (b : Option Blk) (i e : Nat) (H : Heap) : Rs := match b with
 | some (.cells cs _ _ lo _) => nR (Nat.ble lo e) .no (nR (a7f cs e) .no (nR (Nat.ble (Nat.succ i) e) .no (Option.rec (motive := fun _ => Rs) .no (fun v => oE v fun v => .ok v H) (a0V cs i))))
 | _ => .no
def c0G (b : Option Blk) (i : Nat) (H : Heap) : Rs := match b with
 | some (.cells cs _ false lo 1) => nR (a7f cs lo) .no (Option.rec (motive := fun _ => Rs) .no (fun v => oE v fun v => .ok v H) (a0V cs i))
 | _ => .no
def b3v (x : LArg) (f : Fr) (H : Heap) : Rs := match mL f x with
 | .pointer (some ⟨A, i, some e⟩) => b9h (iR H A) i e H
 | .pointer (some ⟨A, i, none⟩) => c0G (iR H A) i H
 | _ => .no
def b8M (b : Option Blk) (n i e : Nat) (H : Heap) : Rs := match b with
 | some (.cells cs _ _ lo _) => nR (Nat.ble lo e) .no (nR (a7f cs e) .no (nR (Nat.ble (Nat.add i n) e) .no (a1V (b1D cs i) n fun l => .ok (.agg ⟨l⟩) H)))
 | _ => .no
def b3p (n : Nat) (x : LArg) (f : Fr) (H : Heap) : Rs := match mL f x with
 | .pointer (some ⟨A, i, some e⟩) => b8M (iR H A) n i e H
 | _ => .no
def stB (b : Option Blk) (n A i e : Nat) (vs : List Value) (H : Heap) : Rs := match b with
 | some (.cells cs ty true lo ver) => nR (a3V vs n) .no (nR (vs.all oneCell) .no (nR (a3V cs e) .no (nR (Nat.ble (Nat.add i n) e) .no (nR (Nat.ble lo e) .no
    (.th undef (hset H A (.cells (iY cs i vs) ty true e ver)))))))
 | _ => .no
def hSt (n : Nat) (x y : LArg) (f : Fr) (H : Heap) : Rs := match mL f x with
 | .pointer (some ⟨A, i, some e⟩) => stB (iR H A) n A i e (mL f y).cells.toList H
 | _ => .no
def hFa (off : Nat) (x : LArg) (f : Fr) (H : Heap) : Rs := match mL f x with
 | .pointer (some ⟨A, i, some e⟩) => kB (Nat.add i off) fun i => .ok (.pointer (some ⟨A, i, some e⟩)) H
 | _ => .no
def ixP (A i e size n : Nat) (H : Heap) (j : Value) : Rs := match j with
 | .int _ (.ofNat j) => nR (Nat.blt j n) .no (kB (Nat.add i (Nat.mul j size)) fun i => .ok (.pointer (some ⟨A, i, some e⟩)) H)
 | _ => .no
def c2l (size : Nat) (x i : LArg) (f : Fr) (H : Heap) : Rs := match mL f x with
 | .slice (some ⟨A, a, some e⟩) n _ => ixP A a e size n H (mL f i)
 | _ => .no
def ixG (A i size n : Nat) (H : Heap) (j : Value) : Rs := match j with
 | .int _ (.ofNat j) => nR (Nat.blt j n) .no (kB (Nat.add i (Nat.mul j size)) fun i => .ok (.pointer (some ⟨A, i, none⟩)) H)
 | _ => .no
def c2a (n size : Nat) (x i : LArg) (f : Fr) (H : Heap) : Rs := match mL f x with
 | .pointer (some ⟨A, a, some e⟩) => ixP A a e size n H (mL f i)
 | .pointer (some ⟨A, a, none⟩) => ixG A a size n H (mL f i)
 | _ => .no
def okV (v : Option Value) (H : Heap) : Rs := Option.rec (motive := fun _ => Rs) .no (fun v => oE v fun v => .ok v H) v
def c1S (i : Nat) (x : LArg) (f : Fr) (H : Heap) : Rs := match mL f x with
 | .tuple ⟨vs⟩ => okV (a0V vs i) H
 | _ => .no
def hF1 (off : Nat) (x : LArg) (f : Fr) (H : Heap) : Rs := match mL f x with
 | .agg ⟨cs⟩ => okV (a0V cs off) H
 | _ => .no
def hFn (off n : Nat) (x : LArg) (f : Fr) (H : Heap) : Rs := match mL f x with
 | .agg ⟨cs⟩ => a1V (b1D cs off) n fun l => .ok (.agg ⟨l⟩) H
 | _ => .no
def c1n (x : LArg) (f : Fr) (H : Heap) : Rs := match mL f x with
 | .slice _ n _ => .th (goInt n) H
 | _ => .no
def b4T (x : LArg) (f : Fr) (H : Heap) : Rs := match mL f x with
 | .string s => .th (goInt s.size) H
 | _ => .no
def c2W (b : Option Blk) (elem size bytes A i e k : Nat) (n : Nat) (l : List Value) (P : Program) (H : Heap) : Rs := match b with
 | some (.cells cs ty true lo ver) => nR (Bool.rec (motive := fun _ => Bool) (iD P ty == some size) true (Nat.beq ty elem)) .no (nR (a3V cs e) .no (nR (Nat.ble lo e) .no
    (nR (Nat.beq (Nat.add i (Nat.mul k size)) e)
      (nR (Nat.beq n 0) (nR (Nat.ble (Nat.add i (Nat.mul (Nat.add k n) size)) e) .no (.th (.slice (some ⟨A, i, some e⟩) (k + n) size) (hset H A (.cells (iY cs (i + k * size) l) ty true e ver)))) .no)
      (nR (Nat.ble (Nat.mul (Nat.add k n) (Nat.succ bytes)) oS) .no (.th (.slice (some ⟨A, i, some (e + l.length)⟩) (k + n) size) (hset H A (.cells (a5E cs l) ty true lo (Bool.rec (motive := fun _ => Nat) 2 ver (Nat.beq ty elem)))))))))
 | _ => .no
def c3W (P : Program) (elem size bytes : Nat) (s : Value) (H : Heap) (n : Nat) (l : List Value) : Rs := match s with
 | .slice none k c => nR (Nat.beq k 0) .no (nR (Nat.beq c 0) .no (nR (Nat.ble (Nat.mul n (Nat.succ bytes)) oS) .no (nR (Nat.beq n 0) (.th (.slice (some ⟨H.length, 0, some l.length⟩) n size) (rJ H elem l)) (.ok (.slice none 0 0) H))))
 | .slice (some ⟨A, i, some e⟩) k _ => c2W (iR H A) elem size bytes A i e k n l P H
 | _ => .no
def c2m (P : Program) (elem size bytes : Nat) (x y : LArg) (f : Fr) (H : Heap) : Rs := match zG H size (mL f y) with
 | some (n, l) => c3W P elem size bytes (mL f x) H n l
 | none => .no
def c2y (t : TypeId) (cs : List Value) (_ : Fr) (H : Heap) : Rs := .th (.pointer (some ⟨H.length, 0, some cs.length⟩)) (rJ H t cs)
def evF (f : Fr) : Operand → Value
 | .tmp t => nT (kO t) f
 | .const v => v
 | .global g => .pointer (some ⟨g, 0, none⟩)
 | .func k => .func (.func k) #[] #[]
def c5w (P : Program) (o : Oper) (f : Fr) (H : Heap) : Rs := match c1L P o (evF f) H with
 | some (v, H1) => .th v H1
 | none => .no
def a3T {α : Type} (f : Fr) (l : List LArg) : (List Value → α) → α := List.rec (motive := fun _ => (List Value → α) → α) (fun K => K []) (fun x _ ih K => oE (mL f x) fun v => ih fun l => K (v :: l)) l
structure Calls' where
 fn : Pth → FuncId → List Value → Heap → Rs
 rd : Nat → List Value → Heap → Rs
def c1K (C : Calls') (k : FuncId) (p : Pth) (args : List LArg) (f : Fr) (H : Heap) : Rs := a3T f args fun l => C.fn p k l H
def a9h (C : Calls') (l : List Value) (H : Heap) (g : Value) : Rs := match g with
 | .func (.func k) ⟨a⟩ ⟨b⟩ => kB k fun k => lJ (kO k) fun p => C.fn p k (a5E a (a5E l b)) H
 | .func (.yield L) _ _ => C.rd L l H
 | _ => .no
def c2B (C : Calls') (g : LArg) (args : List LArg) (f : Fr) (H : Heap) : Rs := a3T f args fun l => a9h C l H (mL f g)
def c6z (_ : Fr) (_ : Heap) : Rs := .no
def opF (P : Program) (C : Calls') (o : LOp) : Fr → Heap → Rs :=
 LOp.rec (motive := fun _ => Fr → Heap → Rs) c6z hMv b5R c2i c5Y b3v b3p hSt hFa c2l c2a c1S hF1 hFn c1n b4T (c2m P) c2y (c1K C) (c2B C) (c5w P) o
inductive Rf where
 | no
 | ok (f : Fr) (H : Heap)
def uG {α : Type} (d : Option Pth) (v : Value) (f : Fr) (K : Fr → α) : α := Option.rec (motive := fun _ => α) (K f) (fun p => pT v p f K) d
def b1E {α : Type} (no : α) (d : Option Pth) (f : Fr) (K : Fr → Heap → α) (r : Rs) : α :=
 Rs.rec (motive := fun _ => α) no (fun v H => uG d v f fun f => K f H) (fun v H => yD v fun v => nJ H fun H => uG d v f fun f => K f H) r
def isB (v : Value) (w : Bool) : Bool := match v with
 | .bool b => Bool.rec (motive := fun _ => Bool) (Bool.rec (motive := fun _ => Bool) true false w) w b
 | _ => false
def xP (P : Program) (C : Calls') (ops : LOps) : Fr → Heap → Rf := LOps.rec (motive := fun _ => Fr → Heap → Rf)
 (fun f H => .ok f H)
 (fun d o _ ih f H => b1E .no d f ih (opF P C o f H))
 (fun p w d o _ ih f H => nR (isB (nT p f) w) (uG d undef f fun f => ih f H) (b1E .no d f ih (opF P C o f H))) ops
inductive Rt where
 | no
 | ok (tr : List (Fr × Heap × Value)) (f : Fr) (H : Heap)
def b0U (tr : List (Fr × Heap × Value)) (f0 : Fr) (H0 : Heap) (d : Option Pth) (K : List (Fr × Heap × Value) → Fr → Heap → Rt) (r : Rs) : Rt :=
 Rs.rec (motive := fun _ => Rt) .no (fun v H => uG d v f0 fun f => K ((f0, H0, v) :: tr) f H) (fun v H => yD v fun v => nJ H fun H => uG d v f0 fun f => K ((f0, H0, v) :: tr) f H) r
def rA (P : Program) (C : Calls') (ops : LOps) : List (Fr × Heap × Value) → Fr → Heap → Rt := LOps.rec (motive := fun _ => List (Fr × Heap × Value) → Fr → Heap → Rt)
 (fun tr f H => .ok tr f H)
 (fun d o _ ih tr f H => b0U tr f H d ih (opF P C o f H))
 (fun p w d o _ ih tr f H => nR (isB (nT p f) w) (uG d undef f fun f1 => ih ((f, H, undef) :: tr) f1 H) (b0U tr f H d ih (opF P C o f H))) ops
def b9M (v : Value) (r : Rs) : Bool := Rs.rec (motive := fun _ => Bool) false (fun w _ => veq w v) (fun w _ => veq w v) r
def b5S (f : Fr) (g : Option (Pth × Bool)) : Bool := match g with
 | none => true
 | some (p, w) => isB (nT p f) w
def b5T (P : Program) (C : Calls') (tr : List (Fr × Heap × Value)) (H1 : Heap) (x : Nat × Option Nat × Option (Pth × Bool) × LOp) : Bool :=
 match a0V tr x.1 with
 | some (f, _, v) => nR (b5S f x.2.2.1) true (match x.2.1 with
   | none => b9M v (opF P C x.2.2.2 f H1)
   | some m => match a0V tr m with
     | some (_, H, _) => b9M v (opF P C x.2.2.2 f H)
     | none => false)
 | none => false
def b5i {α : Type} (p : α → Bool) (l : List α) : Bool := List.rec (motive := fun _ => Bool) true (fun x _ ih => nR (p x) false ih) l
inductive Rc where
 | no
 | ok (e : Ex) (f : Fr) (H : Heap)
def c2Y (r : Rf) : Rc := Rf.rec (motive := fun _ => Rc) .no (fun f H => .ok .normal f H) r
def c0o (P : Program) (C : Calls') (tab : List (Nat × Option Nat × Option (Pth × Bool) × LOp)) (r : Rt) : Rc := Rt.rec (motive := fun _ => Rc) .no (fun tr f H => nR (b5i (b5T P C tr H) tab) .no (.ok .normal f H)) r
def pE {α : Type} (no : α) (l : List Value) : List Pth → Fr → (Fr → α) → α := List.rec (motive := fun _ => List Pth → Fr → (Fr → α) → α) (fun _ f K => K f)
 (fun v _ ih ps f K => List.rec (motive := fun _ => α) no (fun p ps _ => pT v p f fun f => ih ps f K) ps) l
def a4u (H : Heap) (f : Fr) (r : LRes) : Rs := LRes.rec (motive := fun _ => Rs) (fun p => oE (nT p f) fun v => .ok v H) (fun p => b3v (.t p) f H) (fun n p => b3p n (.t p) f H) r
def b5V (H : Heap) (f : Fr) (l : List LRes) : (List Value → Rs) → Rs := List.rec (motive := fun _ => (List Value → Rs) → Rs) (fun K => K []) (fun r _ ih K => Rs.rec (motive := fun _ => Rs) .no (fun v _ => ih fun l => K (v :: l)) (fun _ _ => .no) (a4u H f r)) l
def noT (v : Value) : Bool := match v with | .tuple _ => false | _ => true
def a6y (l : List LRes) (f : Fr) (H : Heap) : Rs := match l with
 | [r] => a4u H f r
 | l => b5V H f l fun vs => nR (b5i noT vs) .no (.ok (.tuple ⟨vs⟩) H)
def c0R (l : List LRes) (r : Rc) : Rs := match r with
 | .ok .normal f H => a6y l f H
 | .ok .ret f H => a6y l f H
 | _ => .no
abbrev pZ := List LEnv → LCode → Fr → Heap → Rc
def c1p (P : Program) (k : FuncId) (args : List Value) (H : Heap) : Rs := match qA P k args H with
 | some (v, H1) => .th v H1
 | none => .no
def mR (T : LT) (ih : pZ) (E : List LEnv) (p : Pth) (args : List Value) (H : Heap) : Rs := match a1A p T with
 | some g => pE .no args g.ps .e fun f => c0R g.res (ih E g.body f H)
 | none => .no
def b4m (P : Program) (T : LT) (ih : pZ) (E : List LEnv) (p : Pth) (k : FuncId) (args : List Value) (H : Heap) : Rs := match a1A p T with
 | some g => pE .no args g.ps .e fun f => c0R g.res (ih E g.body f H)
 | none => c1p P k args H
def b4r (E : List LEnv) (L : Nat) : Option LEnv := List.rec (motive := fun _ => Option LEnv) none (fun e _ ih => nR (Nat.beq e.L L) ih (some e)) E
def c0n (e : Ex) : Option Code := match e with | .normal => none | .ret => some .ret | .exit id => some (.exit id)
def a2D (L : Nat) (e : Ex) (H : Heap) : Rs := match iR H L with
 | some (.loop ⟨_, _, fn, tmps, ps, a, b, d⟩) => match c0n e with
   | none => .th (.bool true) (hset H L (.loop ⟨.ready, none, fn, tmps, ps, a, b, d⟩))
   | some c => .th (.bool false) (hset H L (.loop ⟨.done, some c, fn, tmps, ps, a, b, d⟩))
 | _ => .no
def b3t (L : Nat) (r : Rc) : Rs := match r with
 | .ok e _ H => a2D L e H
 | .no => .no
def zC (ih : pZ) (E : List LEnv) (en : LEnv) (f : Fr) (H : Heap) : Rs := match iR H en.L with
 | some (.loop ⟨.ready, p, fn, tmps, ps, a, b, d⟩) => nJ (hset H en.L (.loop ⟨.busy, p, fn, tmps, ps, a, b, d⟩)) fun H => b3t en.L (ih E en.b f H)
 | _ => .no
def sO (ih : pZ) (E : List LEnv) (en : LEnv) (r : Rc) : Rs := match r with
 | .ok .normal f H => zC ih E en f H
 | _ => .no
def b0f (ih : pZ) (E : List LEnv) (L : Nat) (args : List Value) (H : Heap) : Rs := match b4r E L with
 | some en => match iR H L with
   | some (.loop ⟨.ready, _, _, ⟨tmps⟩, ps, _, _, _⟩) => nR (a3V args ps.size) .no (pE .no tmps en.ps .e fun f => pE .no args en.pp f fun f => sO ih E en (ih E en.a f H))
   | _ => .no
 | none => .no
def a0l (P : Program) (T : LT) (ih : pZ) (E : List LEnv) : Calls' := ⟨b4m P T ih E, b0f ih E⟩
def c6k (_ : Fr) (_ : Heap) : Rc := .no
def c4N (f : Fr) (H : Heap) : Rc := .ok .normal f H
def c6x (P : Program) (T : LT) (ih : pZ) (E : List LEnv) (ops : LOps) (f : Fr) (H : Heap) : Rc := c2Y (xP P (a0l P T ih E) ops f H)
def c5T (P : Program) (T : LT) (ih : pZ) (E : List LEnv) (ops : LOps) (tab : List (Nat × Option Nat × Option (Pth × Bool) × LOp)) (f : Fr) (H : Heap) : Rc := c0o P (a0l P T ih E) tab (rA P (a0l P T ih E) ops [] f H)
def b9S (ih : pZ) (E : List LEnv) (b : LCode) (r : Rc) : Rc := match r with
 | .ok .normal f H => ih E b f H
 | r => r
def c5U (ih : pZ) (E : List LEnv) (a b : LCode) (_ _ : Fr → Heap → Rc) (f : Fr) (H : Heap) : Rc := b9S ih E b (ih E a f H)
def b6c (ih : pZ) (E : List LEnv) (c : LArg) (x y : LCode) (_ _ : Fr → Heap → Rc) (f : Fr) (H : Heap) : Rc := match mL f c with
 | .bool t => ih E (Bool.rec (motive := fun _ => LCode) y x t) f H
 | _ => .no
def c4j (id : Nat) (r : Rc) : Rc := match r with
 | .ok (.exit i) f H => .ok (Bool.rec (motive := fun _ => Ex) (.exit i) .normal (Nat.beq i id)) f H
 | r => r
def c1J (ih : pZ) (E : List LEnv) (id : Nat) (b : LCode) (_ : Fr → Heap → Rc) (f : Fr) (H : Heap) : Rc := c4j id (ih E b f H)
def c4d (ih : pZ) (E : List LEnv) (b : LCode) (_ : Fr → Heap → Rc) (f : Fr) (H : Heap) : Rc := b9S ih E (.loop b) (ih E b f H)
def c4x (id : Nat) (f : Fr) (H : Heap) : Rc := .ok (.exit id) f H
def c6F (f : Fr) (H : Heap) : Rc := .ok .ret f H
def frL {α : Type} (f : Fr) (ps : List Pth) : (List Value → α) → α := List.rec (motive := fun _ => (List Value → α) → α) (fun K => K []) (fun p _ ih K => oE (nT p f) fun v => ih fun l => K (v :: l)) ps
def uX (L : Nat) (f : Fr) (H : Heap) : Rc := match iR H L with
 | some (.loop ⟨.ready, none, fn, tmps, ps, a, b, d⟩) => nJ (hset H L (.loop ⟨.exhausted, none, fn, tmps, ps, a, b, d⟩)) fun H => .ok .normal f H
 | some (.loop ⟨.done, none, fn, tmps, ps, a, b, d⟩) => nJ (hset H L (.loop ⟨.exhausted, none, fn, tmps, ps, a, b, d⟩)) fun H => .ok .normal f H
 | some (.loop ⟨.done, some .ret, fn, tmps, ps, a, b, d⟩) => nJ (hset H L (.loop ⟨.exhausted, some .ret, fn, tmps, ps, a, b, d⟩)) fun H => .ok .ret f H
 | some (.loop ⟨.done, some (.exit id), fn, tmps, ps, a, b, d⟩) => nJ (hset H L (.loop ⟨.exhausted, some (.exit id), fn, tmps, ps, a, b, d⟩)) fun H => .ok (.exit id) f H
 | _ => .no
def b2p (L : Nat) (f : Fr) (r : Rs) : Rc := match r with
 | .no => .no
 | .ok _ H => uX L f H
 | .th _ H => nJ H fun H => uX L f H
def b1g (T : LT) (ih : pZ) (E : List LEnv) (f : Fr) (L : Nat) (k : FuncId) (args : List Value) (H : Heap) : Rc := lJ (kO k) fun p => b2p L f (mR T ih E p args H)
def a9o (T : LT) (ih : pZ) (E : List LEnv) (g : LArg) (ps pp : List Pth) (params : Array Tmp) (assign body : Code) (a b : LCode) (_ _ : Fr → Heap → Rc) (f : Fr) (H : Heap) : Rc := match mL f g with
 | .func (.func k) ⟨x⟩ ⟨y⟩ => kB H.length fun L => frL f ps fun l => nJ (H.cons (.loop ⟨.ready, none, 0, ⟨l⟩, params, assign, body, 0⟩)) fun H1 =>
    kB k fun k => b1g T ih (⟨L, ps, pp, a, b⟩ :: E) f L k (a5E x (.func (.yield L) #[] #[] :: y)) H1
 | _ => .no
def b1z (P : Program) (T : LT) (ih : pZ) (E : List LEnv) (c : LCode) : Fr → Heap → Rc :=
 LCode.rec (motive := fun _ => Fr → Heap → Rc) c6k c4N (c6x P T ih E) (c5T P T ih E) (c5U ih E) (b6c ih E) (c1J ih E) (c4d ih E) c4x c6F (a9o T ih E) c
def exF (P : Program) (T : LT) (n : Nat) : pZ := Nat.rec (motive := fun _ => pZ) (fun _ _ _ _ => .no) (fun _ ih => b1z P T ih) n
section
variable {α : Type}
def lO (x : Operand) (K : LArg → α) : α := match x with
 | .tmp t => lJ (kO t) fun p => K (.t p)
 | .const v => K (.c v)
 | .global g => K (.c (.pointer (some ⟨g, 0, none⟩)))
 | .func k => K (.c (.func (.func k) #[] #[]))
def a4G (l : List Operand) : (List LArg → α) → α := List.rec (motive := fun _ => (List LArg → α) → α) (fun K => K []) (fun x _ ih K => lO x fun x => ih fun l => K (x :: l)) l
def a3j (o : Option Nat) (d : α) (K : Nat → α) : α := match o with
 | some n => kB n K
 | none => d
def c5V (k : IntKind) (a b : Int) : Option Value := some (.int k (vR k (b9V a b)))
def c5A (k : IntKind) (a b : Int) : Option Value := some (.int k (vR k (b9H a b)))
def c4F (a b : Int) : Int := match a, b with
 | .ofNat a, .ofNat b => .ofNat (Nat.mul a b)
 | a, b => a * b
def c4u (k : IntKind) (a b : Int) : Option Value := some (.int k (vR k (c4F a b)))
def c4D (a b : Int) : Int := match a, b with
 | .ofNat a, .ofNat b => .ofNat (Nat.div a b)
 | a, b => a.tdiv b
def c5k (a b : Int) : Int := match a, b with
 | .ofNat a, .ofNat b => .ofNat (Nat.mod a b)
 | a, b => a.tmod b
def b8L (k : IntKind) (a b : Int) : Option Value := match eqI b 0 with | true => none | false => some (.int k (vR k (c4D a b)))
def b8A (k : IntKind) (a b : Int) : Option Value := match eqI b 0 with | true => none | false => some (.int k (c5k a b))
def c6g (_ : IntKind) (a b : Int) : Option Value := some (.bool (eqI a b))
def c5z (_ : IntKind) (a b : Int) : Option Value := some (.bool (!eqI a b))
def c6e (_ : IntKind) (a b : Int) : Option Value := some (.bool (ltI a b))
def c6u (_ : IntKind) (a b : Int) : Option Value := some (.bool (!ltI b a))
def c5s (_ : IntKind) (a b : Int) : Option Value := some (.bool (ltI b a))
def c6r (_ : IntKind) (a b : Int) : Option Value := some (.bool (!ltI a b))
def b7z (op : BinOp) : Option (IntKind → Int → Int → Option Value) := match op with
 | .add => some c5V
 | .sub => some c5A
 | .mul => some c4u
 | .quo => some b8L
 | .rem => some b8A
 | .eql => some c6g
 | .neq => some c5z
 | .lss => some c6e
 | .leq => some c6u
 | .gtr => some c5s
 | .geq => some c6r
 | _ => none
def c2g (d : Option TypeDesc) : Bool := match d with | some (.int _) => true | _ => false
def c6M (P : Program) (s : TypeId) (f : Nat) (d : α) (K1 : Nat → α) (Kn : Nat → Nat → α) : α := match oK P s f with
 | some fd => kB fd.offset fun off => match jN P fd.type with
   | some true => a3j (iD P fd.type) d fun n => Kn off n
   | some false => K1 off
   | none => d
 | none => d
def b6k (P : Program) (o : Oper) (c : Call) (K : LOp → α) : α := match c.callee with
 | .value (.func k) => lJ (kO k) fun p => a4G c.args.toList fun l => K (.callF k p l)
 | .value g => lO g fun g => a4G c.args.toList fun l => K (.callV g l)
 | .builtin .len => nR (c.args.size == 1 && c.argTypes.size == 1) (K (.gen o)) (match P.underlying (c.argTypes.getD 0 0) with
    | some (.slice _) => lO (c.args.getD 0 (.tmp 0)) fun x => K (.len x)
    | some .string => lO (c.args.getD 0 (.tmp 0)) fun x => K (.slen x)
    | _ => K (.gen o))
 | .builtin .append => nR (c.args.size == 2 && c.argTypes.size == 2 && ((P.underlying (c.argTypes.getD 1 0)).map pS) == some true) (K (.gen o))
    (match iG P (c.argTypes.getD 0 0) with
     | some elem => a3j (iD P elem) (K (.gen o)) fun size => a3j (nM P elem) (K (.gen o)) fun bytes => match jA P elem with
       | some z => nR (z.cells.size == size && size != 0) (K (.gen o)) (kB elem fun elem => lO (c.args.getD 0 (.tmp 0)) fun x => lO (c.args.getD 1 (.tmp 0)) fun y => K (.app elem size bytes x y))
       | none => K (.gen o)
     | none => K (.gen o))
 | _ => K (.gen o)
def c3X (P : Program) (o : Oper) (K : LOp → α) : α := match o.op with
 | .move x => lO x fun x => K (.mv x)
 | .assign x => lO x fun x => K (.mv x)
 | .pick c a b => lO c fun c => lO a fun a => lO b fun b => K (.pick c a b)
 | .binOp op t x y _ => nR (c2g (P.underlying t)) (K (.gen o)) (match b7z op with
   | some g => lO x fun x => lO y fun y => K (.bin g x y)
   | none => K (.gen o))
 | .load t x => match jN P t with
   | some true => a3j (iD P t) (K (.gen o)) fun n => lO x fun x => K (.ldn n x)
   | some false => lO x fun x => K (.ld1 x)
   | none => K (.gen o)
 | .store t x y => a3j (iD P t) (K (.gen o)) fun n => lO x fun x => lO y fun y => K (.st n x y)
 | .fieldAddr s x f => match oK P s f with
   | some fd => match iD P fd.type with
     | some 0 => K (.gen o)
     | some _ => kB fd.offset fun off => lO x fun x => K (.fa off x)
     | none => K (.gen o)
   | none => K (.gen o)
 | .indexAddr t x i => match P.underlying t with
   | some (.slice elem) => a3j (iD P elem) (K (.gen o)) fun size => lO x fun x => lO i fun i => K (.ixs size x i)
   | some (.array n elem) => a3j (iD P elem) (K (.gen o)) fun size => lO x fun x => lO i fun i => K (.ixa n size x i)
   | _ => K (.gen o)
 | .extract t i => kB i fun i => lO t fun t => K (.ext i t)
 | .call c => b6k P o c K
 | _ => K (.gen o)
def xQ (P : Program) (o : Oper) (K : LOp → α) : α := nR (o.op.operands.toList.all iP) (K .bad) (c3X P o K)
def a6l (k : Nat) (d : Option Tmp) (no : α) (K : Option Pth → α) : α := match d with
 | none => K none
 | some t => nR (Nat.blt t k) no (lJ (kO t) fun p => K (some p))
def uF (P : Program) (k : Nat) (ops : Array Oper) (l : List Oper) : (LOps → α) → α → α := List.rec (motive := fun _ => (LOps → α) → α → α) (fun K _ => K .nil)
 (fun o _ ih K no => a6l k o.dst no fun d => xQ P o fun o' => match o.guard with
   | none => ih (fun r => K (.cons d o' r)) no
   | some (j, w) => match (ops[j]?).bind (·.dst) with
     | some t => nR (Nat.blt t k) no (lJ (kO t) fun p => zU w fun w => ih (fun r => K (.gcons p w d o' r)) no)
     | none => no) l
def loG (k : Nat) (ops : Array Oper) (g : Option (Nat × Bool)) (no : α) (K : Option (Pth × Bool) → α) : α := match g with
 | none => K none
 | some (j, w) => match (ops[j]?).bind (·.dst) with
   | some t => nR (Nat.blt t k) no (lJ (kO t) fun p => zU w fun w => K (some (p, w)))
   | none => no
def tJ (P : Program) (k : Nat) (ops : Array Oper) (N : Nat) (tab : List (Nat × Nat)) : (List (Nat × Option Nat × Option (Pth × Bool) × LOp) → α) → α → α := List.rec (motive := fun _ => (List (Nat × Option Nat × Option (Pth × Bool) × LOp) → α) → α → α) (fun K _ => K [])
 (fun x _ ih K no => match ops[x.1]? with
   | some o => loG k ops o.guard no fun g => xQ P o fun o' => kB (N - 1 - x.1) fun i => nR (Nat.blt x.2 N) (ih (fun l => K ((i, none, g, o') :: l)) no) (kB (N - 1 - x.2) fun m => ih (fun l => K ((i, some m, g, o') :: l)) no)
   | none => no) tab
def b4E (k : Nat) : (List Pth → α) → α := Nat.rec (motive := fun _ => (List Pth → α) → α) (fun K => K []) (fun n ih K => lJ (kO n) fun p => ih fun l => K (p :: l)) k
def c1a {β : Type} (l : List β) : List β → (List β → α) → α := List.rec (motive := fun _ => List β → (List β → α) → α) (fun a K => K a) (fun x _ ih a K => ih (x :: a) K) l
def b2c (k : Nat) (K : List Pth → α) : α := b4E k fun l => c1a l [] K
def wV (k : Nat) (l : List Tmp) : (List Pth → α) → α → α := List.rec (motive := fun _ => (List Pth → α) → α → α) (fun K _ => K []) (fun t _ ih K no => nR (Nat.blt t k) no (lJ (kO t) fun p => ih (fun l => K (p :: l)) no)) l
def mZ (P : Program) (k : Nat) (c : Code) : (LCode → α) → α := Code.rec (motive := fun _ => (LCode → α) → α)
 (fun K => K .skip)
 (fun _ ops d K => Bool.rec (motive := fun _ => α) (uF P k ops ops.toList (fun l => K (.reg l)) (K .bad))
   (match mT P ops with
     | some [] => uF P k ops ops.toList (fun l => K (.reg l)) (K .bad)
     | some tab => uF P k ops ops.toList (fun l => tJ P k ops ops.size tab (fun t => K (.drw l t)) (K .bad)) (K .bad)
     | none => K .bad) d)
 (fun _ _ iha ihb K => iha fun a => ihb fun b => K (.seq a b))
 (fun c _ _ ihx ihy K => nR (iP c) (K .bad) (lO c fun c => ihx fun x => ihy fun y => K (.cond c x y)))
 (fun id _ ih K => kB id fun id => ih fun b => K (.block id b))
 (fun _ ih K => ih fun b => K (.loop b))
 (fun g ps assign body iha ihb K => nR (iP g) (K .bad) (lO g fun g' => b2c k fun pp => wV k ps.toList (fun q => iha fun a => ihb fun b => K (.range g' pp q ps assign body a b)) (K .bad)))
 (fun id K => kB id fun id => K (.exit id))
 (fun _ _ K => K .bad)
 (fun _ K => K .skip)
 (fun _ K => K .bad)
 (fun K => K .ret)
 (fun _ K => K .bad) c
def a0y (P : Program) (l : List ResultVar) : (List LRes → α) → α → α := List.rec (motive := fun _ => (List LRes → α) → α → α) (fun K _ => K [])
 (fun r _ ih K no => match r with
   | .tmp t => lJ (kO t) fun p => ih (fun l => K (.t p :: l)) no
   | .cell a t => match jN P t with
     | some true => a3j (iD P t) no fun n => lJ (kO a) fun p => ih (fun l => K (.cn n p :: l)) no
     | some false => lJ (kO a) fun p => ih (fun l => K (.c1 p :: l)) no
     | none => no) l
def a2a (P : Program) (f : FuncId) (no : α) (K : LFunc → α) : α := match P.funcs[f]? with
 | some fn => match fn.body with
   | some c => nR (fn.name == "runtime.NumGoroutine") (a0y P fn.results.toList (fun res => b2c fn.ntmps fun ps => mZ P fn.ntmps c fun b => K ⟨ps, b, res⟩) no) no
   | none => no
 | none => no
def tO (P : Program) (fs : List FuncId) : LT → (LT → α) → α := List.rec (motive := fun _ => LT → (LT → α) → α) (fun T K => K T)
 (fun f _ ih T K => a2a P f (ih T K) fun g => lJ (kO f) fun p => sB g p T fun T => ih T K) fs
end
end
end Go.Ds
namespace Go.Ds
section
variable {α : Type}
theorem vB (f k : Nat) : a5q (f + 1) (k + 1) = if k % 2 = 0 then .l (a5q f (k / 2)) else .r (a5q f (k / 2)) := by
 show Bool.rec (motive := fun _ => Pth) (.r (a5q f (k / 2))) (.l (a5q f (k / 2))) (Nat.beq (k % 2) 0) = _
 by_cases h : k % 2 = 0
 ·rw [if_pos h, h]; rfl
 ·rw [if_neg h]
  have : Nat.beq (k % 2) 0 = false := fN.2 fun e => h (dQ e)
  rw [this]
theorem a3P (f : Nat) : a5q f 0 = .z := by cases f <;> rfl
theorem a1I : ∀ (f g a b : Nat), a ≤ f → b ≤ g → a5q f a = a5q g b → a = b
 | _, _, 0, 0, _, _, _ => rfl
 | 0, _, a + 1, _, h, _, _ => by omega
 | _, 0, _, b + 1, _, h, _ => by omega
 | f, g + 1, 0, b + 1, _, _, h => by
   rw [a3P, vB] at h
   split at h <;> cases h
 | f + 1, g, a + 1, 0, _, _, h => by
   rw [a3P, vB] at h
   split at h <;> cases h
 | f + 1, g + 1, a + 1, b + 1, ha, hb, h => by
   rw [vB, vB] at h
   by_cases h1 : a % 2 = 0
   ·rw [if_pos h1] at h
    by_cases h2 : b % 2 = 0
    ·rw [if_pos h2] at h
     injection h with h
     have := a1I f g (a / 2) (b / 2) (by omega) (by omega) h
     omega
    ·rw [if_neg h2] at h; cases h
   ·rw [if_neg h1] at h
    by_cases h2 : b % 2 = 0
    ·rw [if_pos h2] at h; cases h
    ·rw [if_neg h2] at h
     injection h with h
     have := a1I f g (a / 2) (b / 2) (by omega) (by omega) h
     omega
theorem b1x {a b : Nat} (h : kO a = kO b) : a = b := a1I _ _ _ _ (de _) (de _) h
theorem lI (p : Pth) (K : Pth → α) : lJ p K = K p := by
 induction p generalizing K with
 | z => rfl
 | l p ih => exact ih _
 | r p ih => exact ih _
theorem mP (v : Value) (K : Value → α) : oE v K = K v := by cases v <;> rfl
theorem sL (v : Value) (p : Pth) (f : Fr) (K : Fr → α) : pT v p f K = K (pT v p f fun f => f) := by
 induction p generalizing f α with
 | z => cases f <;> rfl
 | l p ih =>
   cases f with
   | e =>
     show pT v p .e (fun l => K (.n undef l .e)) = K (pT v p .e fun l => .n undef l .e)
     rw [ih, ih (K := fun l => Fr.n undef l .e)]
   | n w l r =>
     show pT v p l (fun l => K (.n w l r)) = K (pT v p l fun l => .n w l r)
     rw [ih, ih (K := fun l => Fr.n w l r)]
 | r p ih =>
   cases f with
   | e =>
     show pT v p .e (fun l => K (.n undef .e l)) = K (pT v p .e fun l => .n undef .e l)
     rw [ih, ih (K := fun l => Fr.n undef .e l)]
   | n w l r =>
     show pT v p r (fun r => K (.n w l r)) = K (pT v p r fun r => .n w l r)
     rw [ih, ih (K := fun r => Fr.n w l r)]
theorem uP (p : Pth) : nT p .e = undef := by
 cases p <;> rfl
theorem b3Q (v : Value) (p q : Pth) (f : Fr) : (q = p → nT q (pT v p f fun f => f) = v) ∧ (q ≠ p → nT q (pT v p f fun f => f) = nT q f) := by
 induction p generalizing f q with
 | z =>
   refine ⟨fun h => ?_, fun h => ?_⟩
   ·subst h; cases f <;> rfl
   ·cases q with
    | z => exact absurd rfl h
    | l q =>
      cases f with
      | e => show nT q .e = undef; exact uP q
      | n => rfl
    | r q =>
      cases f with
      | e => show nT q .e = undef; exact uP q
      | n => rfl
 | l p ih =>
   have h1 : ∀ f, pT v (.l p) f (fun f => f) = match f with | .e => .n undef (pT v p .e fun f => f) .e | .n w l r => .n w (pT v p l fun f => f) r := fun f => by
    cases f with
    | e => exact sL v p .e fun l => Fr.n undef l .e
    | n w l r => exact sL v p l fun l => Fr.n w l r
   rw [h1]
   cases q with
   | z => exact ⟨fun h => (nomatch h), fun _ => by cases f <;> rfl⟩
   | r q =>
     refine ⟨fun h => (nomatch h), fun _ => ?_⟩
     cases f with
     | e => show nT q .e = undef; exact uP q
     | n => rfl
   | l q =>
     refine ⟨fun h => ?_, fun h => ?_⟩
     ·injection h with h
      cases f with
      | e => exact (ih q .e).1 h
      | n w l r => exact (ih q l).1 h
     ·have h : q ≠ p := fun e => h (by rw [e])
      cases f with
      | e => show nT q (pT v p .e fun f => f) = undef; rw [(ih q .e).2 h, uP]
      | n w l r => exact (ih q l).2 h
 | r p ih =>
   have h1 : ∀ f, pT v (.r p) f (fun f => f) = match f with | .e => .n undef .e (pT v p .e fun f => f) | .n w l r => .n w l (pT v p r fun f => f) := fun f => by
    cases f with
    | e => exact sL v p .e fun l => Fr.n undef .e l
    | n w l r => exact sL v p r fun r => Fr.n w l r
   rw [h1]
   cases q with
   | z => exact ⟨fun h => (nomatch h), fun _ => by cases f <;> rfl⟩
   | l q =>
     refine ⟨fun h => (nomatch h), fun _ => ?_⟩
     cases f with
     | e => show nT q .e = undef; exact uP q
     | n => rfl
   | r q =>
     refine ⟨fun h => ?_, fun h => ?_⟩
     ·injection h with h
      cases f with
      | e => exact (ih q .e).1 h
      | n w l r => exact (ih q r).1 h
     ·have h : q ≠ p := fun e => h (by rw [e])
      cases f with
      | e => show nT q (pT v p .e fun f => f) = undef; rw [(ih q .e).2 h, uP]
      | n w l r => exact (ih q r).2 h
def FAg (f : Fr) (l : List Value) : Prop := ∀ t, nT (kO t) f = get l t
def FRel (k : Nat) (f : Fr) (l : List Value) : Prop := l.length = k ∧ FAg f l
noncomputable def b5b (f : Fr) (t : Tmp) (v : Value) : Fr := pT v (kO t) f fun f => f
theorem a3Q (f : Fr) (t u : Tmp) (v : Value) : nT (kO u) (b5b f t v) = if u = t then v else nT (kO u) f := by
 have h := b3Q v (kO t) (kO u) f
 by_cases he : u = t
 ·rw [if_pos he]; exact h.1 (by rw [he])
 ·rw [if_neg he]; exact h.2 (fun e => he (b1x e))
theorem FRel.put {k : Nat} {f : Fr} {l : List Value} (h : FRel k f l) {t : Tmp} (ht : t < k) (v : Value) : FRel k (b5b f t v) (Go.Ds.put l (some t) v) := by
 refine ⟨by simp [Go.Ds.put, mW, h.1], fun u => ?_⟩
 rw [a3Q, b0R]
 by_cases he : u = t
 ·subst he; rw [if_pos rfl, if_pos ⟨rfl, by rw [h.1]; exact ht⟩]
 ·rw [if_neg he, if_neg (fun hh => he (cS hh.1).symm)]; exact h.2 u
theorem FRel.set {k : Nat} {f : Fr} {l : List Value} (h : FRel k f l) {t : Tmp} (ht : t < k) (v : Value) : FRel k (b5b f t v) (l.set t v) := by
 have := h.put ht v
 simpa [Go.Ds.put, mW] using this
def Rs.Is (r : Rs) (v : Value) (H : Heap) : Prop := r = .ok v H ∨ r = .th v H
theorem Rs.ar {v : Value} {H : Heap} : ¬ Rs.no.Is v H := by rintro (h | h) <;> cases h
theorem Rs.aK {v w : Value} {H H1 : Heap} (h : (Rs.ok v H).Is w H1) : w = v ∧ H1 = H := by
 rcases h with h | h
 ·injection h with a b; exact ⟨a.symm, b.symm⟩
 ·cases h
theorem Rs.aN {v w : Value} {H H1 : Heap} (h : (Rs.th v H).Is w H1) : w = v ∧ H1 = H := by
 rcases h with h | h
 ·cases h
 ·injection h with a b; exact ⟨a.symm, b.symm⟩
theorem kN (b : Bool) (no x : α) : nR b no x = if b = true then x else no := by cases b <;> rfl
theorem lA {b : Bool} {x : Rs} {v : Value} {H : Heap} (h : (nR b Rs.no x).Is v H) : b = true ∧ x.Is v H := by
 cases b with
 | false => exact absurd h Rs.ar
 | true => exact ⟨rfl, h⟩
theorem xW {β : Type} : ∀ (cs : List β) (e : Nat), a7f cs e = decide (e ≤ cs.length)
 | [], 0 => rfl
 | [], e + 1 => by simp; rfl
 | _ :: _, 0 => rfl
 | _ :: cs, e + 1 => by show a7f cs e = _; rw [xW cs e]; simp
theorem yI {β : Type} : ∀ (cs : List β) (e : Nat), a3V cs e = decide (e = cs.length)
 | [], 0 => rfl
 | [], e + 1 => by simp; rfl
 | _ :: _, 0 => by simp; rfl
 | _ :: cs, e + 1 => by show a3V cs e = _; rw [yI cs e]; simp
theorem xU {β : Type} : ∀ (cs : List β) (e : Nat), a0V cs e = cs[e]?
 | [], _ => rfl
 | _ :: _, 0 => rfl
 | _ :: cs, e + 1 => by show a0V cs e = _; rw [xU cs e]; simp
theorem a6Z {β : Type} : ∀ (cs : List β) (e : Nat), b1D cs e = cs.drop e
 | [], e => by cases e <;> rfl
 | _ :: _, 0 => rfl
 | _ :: cs, e + 1 => by show b1D cs e = _; rw [a6Z cs e]; rfl
theorem a6o {β : Type} : ∀ {cs : List β} {n : Nat} {K : List β → Rs} {v : Value} {H : Heap}, (a1V cs n K).Is v H → n ≤ cs.length ∧ (K (cs.take n)).Is v H
 | [], 0, K, v, H, h => ⟨de _, h⟩
 | [], n + 1, K, v, H, h => absurd h Rs.ar
 | _ :: _, 0, K, v, H, h => ⟨eO _, h⟩
 | c :: cs, n + 1, K, v, H, h => by
   have h' : (a1V cs n fun l => K (c :: l)).Is v H := h
   obtain ⟨h1, h2⟩ := a6o h'
   exact ⟨by simp; omega, h2⟩
theorem b7I {a b : IntKind} (h : Nat.beq (kIx a) (kIx b) = true) : a = b := by
 cases a <;> cases b <;> first | rfl | (exact absurd h (by decide))
theorem b7m (k : Nat) (K : List Pth → α) : b4E k K = K ((List.range k).map kO).reverse := by
 induction k generalizing K with
 | zero => rfl
 | succ n ih =>
   show lJ (kO n) (fun p => b4E n fun l => K (p :: l)) = _
   rw [lI, ih, ef]
   simp
theorem b8Y {β : Type} (l : List β) : ∀ (a : List β) (K : List β → α), c1a l a K = K (l.reverse ++ a) := by
 induction l with
 | nil => intro a K; rfl
 | cons x l ih => intro a K; show c1a l (x :: a) K = _; rw [ih]; simp
theorem b0V (k : Nat) (K : List Pth → α) : b2c k K = K ((List.range k).map kO) := by
 unfold b2c; rw [b7m, b8Y]; simp
theorem pD (n : Nat) (d : α) (K : Nat → α) : a3j (some n) d K = K n := jX n K
def LK (H H' : Heap) : Prop := H.length ≤ H'.length ∧ ∀ A r', A < H.length → iR H' A = some (.loop r') →
 ∃ r, iR H A = some (.loop r) ∧ r'.assign = r.assign ∧ r'.body = r.body ∧ r'.params = r.params ∧ r'.tmps = r.tmps
theorem LK.refl (H : Heap) : LK H H := ⟨de _, fun _ r _ h => ⟨r, h, rfl, rfl, rfl, rfl⟩⟩
theorem LK.trans {H H1 H2 : Heap} (h : LK H H1) (k : LK H1 H2) : LK H H2 := ⟨dy h.1 k.1, fun A r' hA hr => by
 obtain ⟨r1, h1, a1, b1, c1, d1⟩ := k.2 A r' (dF hA h.1) hr
 obtain ⟨r, h2, a2, b2, c2, d2⟩ := h.2 A r1 hA h1
 exact ⟨r, h2, a1.trans a2, b1.trans b2, c1.trans c2, d1.trans d2⟩⟩
def Blk.cb : Blk → Bool
 | .loop _ => true
 | _ => false
theorem LK.hset (H : Heap) (A : Nat) {b : Blk} (hb : b.cb = false) : LK H (hset H A b) := by
 refine ⟨by rw [jL]; exact de _, fun B r' hB h => ?_⟩
 by_cases he : A = B
 ·subst he; rw [iS _ hB] at h; injection h with h; subst h; cases hb
 ·rw [iZ _ he] at h; exact ⟨r', h, rfl, rfl, rfl, rfl⟩
theorem LK.cons (H : Heap) (b : Blk) : LK H (H.cons b) := by
 refine ⟨by rw [length_cons]; omega, fun B r' hB h => ?_⟩
 rw [jM b hB] at h; exact ⟨r', h, rfl, rfl, rfl, rfl⟩
theorem LK.row (H : Heap) (ty : TypeId) (cs : List Value) : LK H (rJ H ty cs) := by rw [lE]; exact .cons _ _
theorem LK.loop {H : Heap} {L : Nat} {r r' : Loop} (h : iR H L = some (.loop r)) (e : r'.assign = r.assign ∧ r'.body = r.body ∧ r'.params = r.params ∧ r'.tmps = r.tmps) : LK H (Go.Ds.hset H L (.loop r')) := by
 refine ⟨by rw [jL]; exact de _, fun B r2 hB hg => ?_⟩
 by_cases he : L = B
 ·subst he; rw [iS _ hB] at hg; injection hg with hg; injection hg with hg; subst hg; exact ⟨r, h, e⟩
 ·rw [iZ _ he] at hg; exact ⟨r2, hg, rfl, rfl, rfl, rfl⟩
variable {P : Program}
theorem a7w {H H' : Heap} {t : TypeId} {p v : Value} (h : qU P H t p v = some H') : LK H H' := by
 unfold qU at h
 split at h
 ·split at h
  ·dsimp only at h
   split at h
   ·injection h with h; subst h; exact .hset _ _ rfl
   ·cases h
  ·cases h
 ·cases h
theorem a4d {H H' : Heap} {t : TypeId} {v r : Value} (h : wH P H t v = some (r, H')) : LK H H' := by
 unfold wH at h
 dsimp only at h
 split at h
 ·injection h with h; injection h with _ h; subst h; exact .row _ _ _
 ·cases h
theorem a4H {H H' : Heap} {t : TypeId} {s x r : Value} (h : nH P H t s x = some (r, H')) : LK H H' := by
 unfold nH at h
 simp only [cV] at h
 obtain ⟨elem, _, size, _, bytes, _, z, _, ⟨n, l⟩, _, h⟩ := h
 try dsimp only at h
 split at h
 ·split at h
  ·split at h
   ·injection h with h; injection h with _ h; subst h; exact .refl _
   ·injection h with h; injection h with _ h; subst h; exact .row _ _ _
  ·cases h
 ·split at h
  ·split at h
   ·injection h with h; injection h with _ h; subst h; exact .hset _ _ rfl
   ·split at h
    ·injection h with h; injection h with _ h; subst h; exact .hset _ _ rfl
    ·cases h
  ·cases h
 ·cases h
theorem a6z {H H' : Heap} {t : TypeId} {v r : Value} (h : qM P H t v = some (r, H')) : LK H H' := by
 unfold qM at h
 split at h
 ·dsimp only at h
  rename_i n elem _
  have key : ∀ (b : Bool), (if b = true then some (Value.pointer (some ⟨H.length, 0, some v.cells.toList.length⟩), b6V H elem v.cells.toList) else none) = some (r, H') → LK H H' := by
   intro b h
   cases b
   ·cases h
   ·injection h with h; injection h with _ h; subst h; rw [a1k]; exact .cons _ _
  exact key _ h
 ·exact a4d h
theorem a5L {H H' : Heap} {t : TypeId} {x y r : Value} (h : uY P H t x y = some (r, H')) : LK H H' := by
 unfold uY at h
 split at h
 ·split at h
  ·split at h
   ·simp only [dc] at h
    obtain ⟨_, _, h⟩ := h
    injection h with _ h; subst h; exact .hset _ _ rfl
   ·cases h
  ·cases h
 ·cases h
theorem a4Y {H H' : Heap} {k : FuncId} {args : List Value} {r : Value} (h : qA P k args H = some (r, H')) : LK H H' := by
 unfold qA at h
 simp only [cV] at h
 obtain ⟨fn, _, h⟩ := h
 split at h
 case isFalse => cases h
 split at h
 ·split at h
  ·injection h with h; injection h with _ h; subst h; exact .refl _
  ·cases h
 split at h
 ·split at h
  ·split at h
   ·simp only [cV] at h
    obtain ⟨_, _, h⟩ := h
    split at h
    ·injection h with h; injection h with _ h; subst h; exact .row _ _ _
    ·cases h
   ·cases h
  ·cases h
 split at h
 ·split at h
  ·split at h
   ·split at h
    ·injection h with h; injection h with _ h; subst h; exact .refl _
    ·cases h
   ·cases h
  ·cases h
 ·cases h
theorem a8l {H H' : Heap} {t : TypeId} {s x r : Value} (h : a0u P H t s x = some (r, H')) : LK H H' := by
 unfold a0u at h
 simp only [cV] at h
 obtain ⟨elem, _, size, _, m, _, h⟩ := h
 try dsimp only at h
 split at h
 ·split at h
  ·injection h with h; injection h with _ h; subst h; exact .refl _
  ·cases h
 ·split at h
  ·injection h with h; injection h with _ h; subst h; exact .refl _
  ·simp only [cV] at h
   obtain ⟨l, _, h⟩ := h
   split at h
   ·split at h
    ·injection h with h; injection h with _ h; subst h; exact .hset _ _ rfl
    ·cases h
   ·cases h
 ·cases h
theorem a7a {H H' : Heap} {t : TypeId} {x r : Value} (h : tE P H t x = some (r, H')) : LK H H' := by
 unfold tE at h
 simp only [cV] at h
 obtain ⟨elem, _, z, _, h⟩ := h
 split at h
 ·injection h with h; injection h with _ h; subst h; exact .refl _
 ·split at h
  ·injection h with h; injection h with _ h; subst h; exact .refl _
  ·try dsimp only at h
   split at h
   ·split at h
    ·injection h with h; injection h with _ h; subst h; exact .hset _ _ rfl
    ·cases h
   ·cases h
 ·cases h
theorem b3b {H H' : Heap} {t : TypeId} {m k v : Value} (h : a0P P H t m k v = some H') : LK H H' := by
 unfold a0P at h
 simp only [cV] at h
 obtain ⟨⟨kt, et⟩, _, h⟩ := h
 dsimp only at h
 split at h
 ·split at h
  ·split at h
   ·simp only [cV] at h
    obtain ⟨r, _, h⟩ := h
    split at h
    ·simp only [cV] at h
     obtain ⟨e, _, h⟩ := h
     split at h
     ·injection h with h; subst h; exact .hset _ _ rfl
     ·cases h
    ·injection h with h; subst h; exact .hset _ _ rfl
   ·cases h
  ·cases h
 ·cases h
theorem a7i {H H' : Heap} {t : TypeId} {m k r : Value} (h : sQ P H t m k = some (r, H')) : LK H H' := by
 unfold sQ at h
 simp only [cV] at h
 obtain ⟨⟨kt, et⟩, _, h⟩ := h
 dsimp only at h
 split at h
 ·split at h
  ·split at h
   ·simp only [cV] at h
    obtain ⟨r, _, h⟩ := h
    split at h
    ·simp only [cV] at h
     obtain ⟨e, _, h⟩ := h
     split at h
     ·injection h with h; injection h with _ h; subst h; exact .hset _ _ rfl
     ·cases h
    ·simp only [cV] at h
     obtain ⟨z, _, h⟩ := h
     split at h
     ·injection h with h; injection h with _ h; subst h; exact .hset _ _ rfl
     ·cases h
   ·cases h
  ·cases h
 ·cases h
theorem a5P {H H' : Heap} {m b v : Value} (h : rK H m b v = some H') : LK H H' := by
 unfold rK at h
 split at h
 ·split at h
  ·split at h
   ·simp only [cV] at h
    obtain ⟨e, _, h⟩ := h
    injection h with h; subst h; exact .hset _ _ rfl
   ·cases h
  ·cases h
 ·cases h
theorem a2Y {H H' : Heap} {t : TypeId} {o : Option Value} {r : Value} (h : pQ P H t o = some (r, H')) : LK H H' := by
 unfold pQ at h
 simp only [cV] at h
 obtain ⟨_, _, h⟩ := h
 split at h
 ·injection h with h; injection h with _ h; subst h; exact .cons _ _
 ·injection h with h; injection h with _ h; subst h; exact .cons _ _
 ·cases h
theorem a6G {H H' : Heap} {o : Oper} {l : List Value} {r : Value} (h : kL P o l H = some (r, H')) : H' = H := by
 unfold kL at h
 split at h
 ·split at h
  ·split at h
   ·injection h with h; injection h with _ h; exact h.symm
   ·cases h
  ·cases h
 ·cases h
theorem vE {H H' : Heap} {v r : Value} (h : some (v, H) = some (r, H')) : LK H H' := by injection h with h; injection h with _ h; subst h; exact .refl _
theorem tW {H H' : Heap} {v : Option Value} {r : Value} (h : v.map (fun v => (v, H)) = some (r, H')) : LK H H' := by
 cases v with
 | none => cases h
 | some v => exact vE h
set_option maxHeartbeats 1000000 in
theorem b4W {H H' : Heap} {o : Oper} {l : List Value} {r : Value} (h : opD P o l H = some (r, H')) : LK H H' := by
 obtain ⟨dst, op, type, pos, after, guard⟩ := o
 have pl : ∀ {o : Oper}, kL P o l H = some (r, H') → LK H H' := fun h => by rw [a6G h]; exact .refl _
 cases op with
 | alloc t =>
   simp only [opD, cV] at h
   obtain ⟨z, _, h⟩ := h
   split at h
   ·exact a6z h
   ·cases h
 | box t x => simp only [opD] at h; exact a4d h
 | store t x y =>
   simp only [opD, dc] at h
   obtain ⟨H1, h, e⟩ := h
   injection e with _ e; subst e
   exact a7w h
 | mapUpdate t m x y =>
   simp only [opD, dc] at h
   obtain ⟨H1, h, e⟩ := h
   injection e with _ e; subst e
   exact b3b h
 | mapEntry t m x => simp only [opD] at h; exact a7i h
 | entryStore t m x y =>
   simp only [opD, dc] at h
   obtain ⟨H1, h, e⟩ := h
   injection e with _ e; subst e
   exact a5P h
 | makeMap t x => simp only [opD] at h; exact a2Y h
 | buildSlice t len parts =>
   simp only [opD, cV] at h
   obtain ⟨elem, _, size, _, z, _, h⟩ := h
   split at h
   ·injection h with h; injection h with _ h; subst h; exact .row _ _ _
   split at h
   ·simp only [dc] at h
    obtain ⟨cs, _, e⟩ := h
    injection e with _ e; subst e
    exact .row _ _ _
   ·cases h
 | makeSlice t n c =>
   simp only [opD, cV] at h
   obtain ⟨elem, _, size, _, bytes, _, z, _, h⟩ := h
   split at h
   ·split at h
    ·injection h with h; injection h with _ h; subst h; exact .row _ _ _
    ·cases h
   ·cases h
 | call c =>
   simp only [opD] at h
   split at h
   ·split at h
    ·split at h
     all_goals first | exact tW h | cases h
    ·cases h
   ·split at h
    ·exact a4H h
    ·cases h
   ·split at h
    ·exact a8l h
    ·cases h
   ·split at h
    ·exact a7a h
    ·cases h
   ·exact pl h
   ·split at h
    ·split at h
     ·split at h
      ·cases h
      ·exact vE h
     ·cases h
    ·cases h
   ·split at h
    ·exact a5L h
    ·cases h
   ·exact pl h
   ·exact pl h
   ·cases h
 | convert s t x =>
   simp only [opD] at h
   split at h
   ·exact pl h
   ·split at h
    ·split at h
     ·exact tW h
     ·cases h
    ·split at h
     ·simp only [cV] at h
      obtain ⟨_, _, h⟩ := h
      injection h with h; injection h with _ h; subst h
      rw [b0K]; exact .cons _ _
     ·cases h
    ·split at h
     ·exact vE h
     ·cases h
    ·cases h
 | slice t x lo hi mx =>
   cases mx with
   | some _ => simp only [opD] at h; cases h
   | none =>
     simp only [opD] at h
     split at h
     ·exact pl h
     ·split at h
      ·exact tW h
      ·exact tW h
 | _ =>
   simp only [opD] at h
   repeat' first
    | exact LK.refl _
    | exact vE h
    | exact tW h
    | exact pl h
    | (cases h; done)
    | split at h
    | (simp only [cV, dc] at h; obtain ⟨_, _, h⟩ := h)
    | (obtain ⟨_, _, h⟩ := h)
    | (injection h with h; injection h with _ h; subst h; exact LK.refl _)
    | (injection h with _ h; subst h; exact LK.refl _)
    | (cases h; exact LK.refl _)
end
end Go.Ds
namespace Go.Ds
variable {P : Program}
structure CallsOk (P : Program) (C : Calls') (H0 : Heap) : Prop where
 fn : ∀ p f args H v H1, LK H0 H → (C.fn p f args H).Is v H1 → p = kO f → (FnS P f args H (fun v' H' => v' = v ∧ H' = H1) ∨ qA P f args H = some (v, H1)) ∧ LK H H1
 rd : ∀ L args H v H1, LK H0 H → (C.rd L args H).Is v H1 → xH P L args H v H1 ∧ LK H H1
noncomputable def iV (x : Operand) : LArg := match x with
 | .tmp t => .t (kO t)
 | .const v => .c v
 | .global g => .c (.pointer (some ⟨g, 0, none⟩))
 | .func k => .c (.func (.func k) #[] #[])
theorem kV {α : Type} (x : Operand) (K : LArg → α) : lO x K = K (iV x) := by
 cases x with
 | tmp t => exact lI _ _
 | _ => rfl
theorem jR {f : Fr} {l : List Value} (h : FAg f l) (x : Operand) : mL f (iV x) = ev l x := by
 cases x with
 | tmp t => exact h t
 | _ => rfl
theorem a3v {α : Type} (l : List Operand) (K : List LArg → α) : a4G l K = K (l.map iV) := by
 induction l generalizing K with
 | nil => rfl
 | cons x l ih =>
   show lO x (fun x => a4G l fun l => K (x :: l)) = _
   rw [kV, ih]; rfl
theorem a7l {α : Type} {f : Fr} {l : List Value} (h : FAg f l) (xs : List Operand) (K : List Value → α) : a3T f (xs.map iV) K = K (xs.map (ev l)) := by
 induction xs generalizing K with
 | nil => rfl
 | cons x xs ih =>
   show oE (mL f (iV x)) (fun v => a3T f (xs.map iV) fun l => K (v :: l)) = _
   rw [mP, ih, jR h]; rfl
theorem c2A {f : Fr} {l : List Value} (h : FAg f l) : evF f = ev l := by
 funext x
 cases x with
 | tmp t => exact h t
 | _ => rfl
def vY (P : Program) (o : Oper) (lo : LOp) : Prop := ∀ C H0 f l H v H1, CallsOk P C H0 → LK H0 H → FAg f l → (opF P C lo f H).Is v H1 → StepR P o l H v H1 ∧ LK H H1
def LowPl (P : Program) (o : Oper) (lo : LOp) : Prop := ∀ C f l H v H1, FAg f l → (opF P C lo f H).Is v H1 → opD P o l H = some (v, H1)
theorem LowPl.low {o : Oper} {lo : LOp} (hok : o.op.operands.toList.all iP = true) (h : LowPl P o lo) : vY P o lo :=
 fun C _ f l H v H1 _ _ hf hr => by have := h C f l H v H1 hf hr; exact ⟨.op hok this, b4W this⟩
theorem b7A (o : Oper) : vY P o .bad := fun _ _ _ _ _ _ _ _ _ _ h => absurd h Rs.ar
theorem b8X (o : Oper) : LowPl P o (.gen o) := fun C f l H v H1 hf hr => by
 have hr : (match c1L P o (evF f) H with | some (v, H1) => Rs.th v H1 | none => .no).Is v H1 := hr
 rw [c2A hf] at hr
 have e : c1L P o (ev l) H = opD P o l H := rfl
 rw [e] at hr
 split at hr
 ·rename_i v2 H2 h2
  obtain ⟨rfl, rfl⟩ := Rs.aN hr
  exact h2
 ·exact absurd hr Rs.ar
section
variable {dst : Option Tmp} {type : TypeId} {pos : String} {after : Array Edge} {guard : Option (Nat × Bool)}
theorem c0M (x : Operand) : LowPl P ⟨dst, .move x, type, pos, after, guard⟩ (.mv (iV x)) := fun C f l H v H1 hf hr => by
 have hr : (oE (mL f (iV x)) fun v => Rs.ok v H).Is v H1 := hr
 rw [mP, jR hf] at hr
 obtain ⟨rfl, rfl⟩ := Rs.aK hr
 rfl
theorem c1M (x : Operand) : LowPl P ⟨dst, .assign x, type, pos, after, guard⟩ (.mv (iV x)) := fun C f l H v H1 hf hr => by
 have hr : (oE (mL f (iV x)) fun v => Rs.ok v H).Is v H1 := hr
 rw [mP, jR hf] at hr
 obtain ⟨rfl, rfl⟩ := Rs.aK hr
 rfl
theorem b6u (c a b : Operand) : LowPl P ⟨dst, .pick c a b, type, pos, after, guard⟩ (.pick (iV c) (iV a) (iV b)) := fun C f l H v H1 hf hr => by
 have hr : (b5R (iV c) (iV a) (iV b) f H).Is v H1 := hr
 unfold b5R at hr
 rw [jR hf] at hr
 split at hr
 ·rename_i t ht
  rw [mP] at hr
  simp only [opD, ht]
  cases t
  ·have hr : (Rs.ok (mL f (iV b)) H).Is v H1 := hr
   rw [jR hf] at hr
   obtain ⟨rfl, rfl⟩ := Rs.aK hr; rfl
  ·have hr : (Rs.ok (mL f (iV a)) H).Is v H1 := hr
   rw [jR hf] at hr
   obtain ⟨rfl, rfl⟩ := Rs.aK hr; rfl
 ·exact absurd hr Rs.ar
theorem b8m (a b : Int) : c4F a b = a * b := by cases a <;> cases b <;> rfl
theorem a5s (a b : Int) : c4D a b = a.tdiv b := by cases a <;> cases b <;> rfl
theorem a5G (a b : Int) : c5k a b = a.tmod b := by cases a <;> cases b <;> rfl
theorem b8G {op : BinOp} {g : IntKind → Int → Int → Option Value} (h : b7z op = some g) (k : IntKind) (a b : Int) : mI op k a b = g k a b := by
 cases op <;> simp only [b7z] at h <;> first | (cases h; done) | (injection h with h; subst h)
 all_goals first
  | rfl
  | (simp only [mI, c4u, b8m]; done)
  | (simp only [mI, b8L, a5s]; done)
  | (simp only [mI, b8A, a5G]; done)
  | (simp only [mI, b8L, a5s]; rfl)
  | (simp only [mI, b8A, a5G]; rfl)
  | (simp only [mI, b8L, a5s]; cases eqI b 0 <;> rfl)
  | (simp only [mI, b8A, a5G]; cases eqI b 0 <;> rfl)
theorem c3E {o : Option Value} {H H1 : Heap} {v : Value} (h : (oV o H).Is v H1) : o = some v ∧ H1 = H := by
 cases o with
 | none => exact absurd h Rs.ar
 | some w => obtain ⟨rfl, rfl⟩ := Rs.aN h; exact ⟨rfl, rfl⟩
theorem b5v {o : Option Value} {H H1 : Heap} {v : Value} (h : (okV o H).Is v H1) : o = some v ∧ H1 = H := by
 cases o with
 | none => exact absurd h Rs.ar
 | some w =>
   have h : (oE w fun v => Rs.ok v H).Is v H1 := h
   rw [mP] at h
   obtain ⟨rfl, rfl⟩ := Rs.aK h; exact ⟨rfl, rfl⟩
theorem b8t {op : BinOp} {g : IntKind → Int → Int → Option Value} (hg : b7z op = some g) (t yt : TypeId) (x y : Operand) : LowPl P ⟨dst, .binOp op t x y yt, type, pos, after, guard⟩ (.bin g (iV x) (iV y)) := fun C f l H v H1 hf hr => by
 have hr : (c2i g (iV x) (iV y) f H).Is v H1 := hr
 unfold c2i at hr
 rw [jR hf] at hr
 split at hr
 ·rename_i k a hx
  unfold c0y at hr
  rw [jR hf] at hr
  split at hr
  ·rename_i k' b hy
   obtain ⟨hk, hq⟩ := lA hr
   obtain rfl := b7I hk
   obtain ⟨hv, rfl⟩ := c3E hq
   rw [← b8G hg] at hv
   have : opD P ⟨dst, .binOp op t x y yt, type, pos, after, guard ⟩ l H1 = if k = k then (match mI op k a b with | some v => some (v, H1) | none => kL P ⟨dst, .binOp op t x y yt, type, pos, after, guard ⟩ l H1) else kL P ⟨dst, .binOp op t x y yt, type, pos, after, guard ⟩ l H1 := by
    simp only [opD, hx, hy]
    cases op <;> rfl
   rw [this, if_pos rfl, hv]
  ·exact absurd hr Rs.ar
 ·exact absurd hr Rs.ar
theorem b9P {b : Option Blk} {i e : Nat} {H H1 : Heap} {v : Value} (h : (b9h b i e H).Is v H1) : H1 = H ∧ ∃ cs ty rw lo ver, b = some (.cells cs ty rw lo ver) ∧ lo ≤ e ∧ e ≤ cs.length ∧ i + 1 ≤ e ∧ cs[i]? = some v := by
 unfold b9h at h
 split at h
 ·rename_i cs ty rw lo ver
  obtain ⟨h1, h⟩ := lA h
  obtain ⟨h2, h⟩ := lA h
  obtain ⟨h3, h⟩ := lA h
  have h : (okV (a0V cs i) H).Is v H1 := h
  obtain ⟨h4, h5⟩ := b5v h
  rw [xW] at h2
  rw [xU] at h4
  exact ⟨h5, cs, ty, rw, lo, ver, rfl, ed h1, by simpa using h2, ed h3, h4⟩
 ·exact absurd h Rs.ar
theorem b8H {b : Option Blk} {n i e : Nat} {H H1 : Heap} {v : Value} (h : (b8M b n i e H).Is v H1) : H1 = H ∧ ∃ cs ty rw lo ver, b = some (.cells cs ty rw lo ver) ∧ lo ≤ e ∧ e ≤ cs.length ∧ i + n ≤ e ∧ v = .agg ((cs.drop i).take n).toArray := by
 unfold b8M at h
 split at h
 ·rename_i cs ty rw lo ver
  obtain ⟨h1, h⟩ := lA h
  obtain ⟨h2, h⟩ := lA h
  obtain ⟨h3, h⟩ := lA h
  obtain ⟨h4, h⟩ := a6o h
  obtain ⟨rfl, rfl⟩ := Rs.aK h
  rw [xW] at h2
  exact ⟨rfl, cs, ty, rw, lo, ver, rfl, ed h1, by simpa using h2, ed h3, by rw [a6Z]⟩
 ·exact absurd h Rs.ar
theorem b0M {X : LArg} {f : Fr} {H H1 : Heap} {v w : Value} {t : TypeId} (ht : jN P t = some false) (hw : mL f X = w) (h : (b3v X f H).Is v H1) : H1 = H ∧ lM P H t w = some v := by
 unfold b3v at h
 rw [hw] at h
 split at h
 ·rename_i A i e
  obtain ⟨h1, cs, ty, rw', lo, ver, h2, h3, h4, h5, h6⟩ := b9P h
  refine ⟨h1, ?_⟩
  simp only [lM, ht, jD, h2]
  rw [if_pos (by simp; omega)]
  simp [h6]
 ·rename_i A i
  unfold c0G at h
  split at h
  ·rename_i cs ty lo hg
   obtain ⟨h1, h⟩ := lA h
   rw [xW] at h1
   have h1 : lo ≤ cs.length := by simpa using h1
   cases hn : a0V cs i with
   | none => rw [hn] at h; exact absurd h Rs.ar
   | some c =>
     rw [hn] at h
     have h : (oE c fun v => Rs.ok v H).Is v H1 := h
     rw [mP] at h
     obtain ⟨rfl, rfl⟩ := Rs.aK h
     rw [xU] at hn
     have hi := (dm.1 hn).1
     refine ⟨rfl, ?_⟩
     simp only [lM, ht, jD, hg]
     rw [if_pos (by simp; omega)]
     simp [hn]
  ·exact absurd h Rs.ar
 ·exact absurd h Rs.ar
theorem b1p {X : LArg} {f : Fr} {H H1 : Heap} {v w : Value} {t : TypeId} {n : Nat} (ht : jN P t = some true) (hn : iD P t = some n) (hw : mL f X = w) (h : (b3p n X f H).Is v H1) : H1 = H ∧ lM P H t w = some v := by
 unfold b3p at h
 rw [hw] at h
 split at h
 ·rename_i A i e
  obtain ⟨h1, cs, ty, rw', lo, ver, h2, h3, h4, h5, h6⟩ := b8H h
  refine ⟨h1, ?_⟩
  simp only [lM, ht, hn, cU, jD, h2]
  rw [if_pos (by simp; omega), h6]
  rfl
 ·exact absurd h Rs.ar
theorem b9T {t : TypeId} (ht : jN P t = some false) (x : Operand) : LowPl P ⟨dst, .load t x, type, pos, after, guard⟩ (.ld1 (iV x)) := fun C f l H v H1 hf hr => by
 obtain ⟨rfl, h⟩ := b0M (P := P) ht (jR hf x) hr
 simp only [opD, h, dI]
theorem b7V {t : TypeId} {n : Nat} (ht : jN P t = some true) (hn : iD P t = some n) (x : Operand) : LowPl P ⟨dst, .load t x, type, pos, after, guard⟩ (.ldn n (iV x)) := fun C f l H v H1 hf hr => by
 obtain ⟨rfl, h⟩ := b1p (P := P) ht hn (jR hf x) hr
 simp only [opD, h, dI]
theorem c2K {t : TypeId} {n : Nat} (hn : iD P t = some n) (x y : Operand) : LowPl P ⟨dst, .store t x y, type, pos, after, guard⟩ (.st n (iV x) (iV y)) := fun C f l H v H1 hf hr => by
 have hr : (hSt n (iV x) (iV y) f H).Is v H1 := hr
 unfold hSt at hr
 rw [jR hf, jR hf] at hr
 split at hr
 ·rename_i A i e hx
  unfold stB at hr
  split at hr
  ·rename_i cs ty lo ver hg
   obtain ⟨h1, hr⟩ := lA hr
   obtain ⟨h2, hr⟩ := lA hr
   obtain ⟨h3, hr⟩ := lA hr
   obtain ⟨h4, hr⟩ := lA hr
   obtain ⟨h5, hr⟩ := lA hr
   obtain ⟨rfl, rfl⟩ := Rs.aN hr
   rw [yI] at h1 h3
   have h1 : n = (ev l y).cells.toList.length := by simpa only [decide_eq_true_eq] using h1
   have h3 : e = cs.length := by simpa only [decide_eq_true_eq] using h3
   have h4 : i + n ≤ e := ed h4
   have h5 : lo ≤ e := ed h5
   simp only [opD, qU, hx, hg]
   rw [if_pos ⟨by rw [hn, h1], h2, h3, by omega, h5⟩]
   simp only [dI]
   rw [h3]
  ·exact absurd hr Rs.ar
 ·exact absurd hr Rs.ar
theorem c0Y {s : TypeId} {k n : Nat} {fd : Field} (hf' : oK P s k = some fd) (hn : iD P fd.type = some n) (hn0 : n ≠ 0) (x : Operand) : LowPl P ⟨dst, .fieldAddr s x k, type, pos, after, guard⟩ (.fa fd.offset (iV x)) := fun C f l H v H1 hf hr => by
 have hr : (hFa fd.offset (iV x) f H).Is v H1 := hr
 unfold hFa at hr
 rw [jR hf] at hr
 split at hr
 ·rename_i A i e hx
  rw [jX] at hr
  obtain ⟨rfl, rfl⟩ := Rs.aK hr
  simp only [opD, hx, hf', cU, hn]
  rw [if_neg (by simpa using hn0)]; rfl
 ·exact absurd hr Rs.ar
theorem b6d {A i e size n : Nat} {H H1 : Heap} {j v : Value} (h : (ixP A i e size n H j).Is v H1) : H1 = H ∧ ∃ k m, j = .int k (.ofNat m) ∧ m < n ∧ v = .pointer (some ⟨A, i + m * size, some e⟩) := by
 unfold ixP at h
 split at h
 ·rename_i k m
  obtain ⟨h1, h⟩ := lA h
  rw [jX] at h
  obtain ⟨rfl, rfl⟩ := Rs.aK h
  rw [blt_eq] at h1
  exact ⟨rfl, k, m, rfl, by simpa using h1, rfl⟩
 ·exact absurd h Rs.ar
theorem b8g {t elem : TypeId} {size : Nat} (ht : P.underlying t = some (.slice elem)) (hs : iD P elem = some size) (x i : Operand) : LowPl P ⟨dst, .indexAddr t x i, type, pos, after, guard⟩ (.ixs size (iV x) (iV i)) := fun C f l H v H1 hf hr => by
 have hr : (c2l size (iV x) (iV i) f H).Is v H1 := hr
 unfold c2l at hr
 rw [jR hf, jR hf] at hr
 split at hr
 ·rename_i A a e n c hx
  obtain ⟨rfl, k, m, hj, hm, rfl⟩ := b6d hr
  simp only [opD, ht, hx, hj, hs, cU]
  rw [if_pos (by simp; omega)]
  rfl
 ·exact absurd hr Rs.ar
theorem c4C (a b : Nat) : Nat.beq a b = (a == b) := by
 cases h : Nat.beq a b with
 | true => rw [dQ h]; simp
 | false => have := Nat.ne_of_beq_eq_false h; simp [this]
theorem c1f {A i size n : Nat} {H H1 : Heap} {j v : Value} (h : (ixG A i size n H j).Is v H1) : H1 = H ∧ ∃ k m, j = .int k (.ofNat m) ∧ m < n ∧ v = .pointer (some ⟨A, i + m * size, none⟩) := by
 unfold ixG at h
 split at h
 ·rename_i k m
  obtain ⟨h1, h⟩ := lA h
  rw [jX] at h
  obtain ⟨rfl, rfl⟩ := Rs.aK h
  exact ⟨rfl, k, m, rfl, by simpa [gW] using h1, rfl⟩
 ·exact absurd h Rs.ar
theorem b7K {t elem : TypeId} {n size : Nat} (ht : P.underlying t = some (.array n elem)) (hs : iD P elem = some size) (x i : Operand) : LowPl P ⟨dst, .indexAddr t x i, type, pos, after, guard⟩ (.ixa n size (iV x) (iV i)) := fun C f l H v H1 hf hr => by
 have hr : (c2a n size (iV x) (iV i) f H).Is v H1 := hr
 unfold c2a at hr
 rw [jR hf, jR hf] at hr
 split at hr
 ·rename_i A a e hx
  obtain ⟨rfl, k, m, hj, hm, rfl⟩ := b6d hr
  simp only [opD, ht, hx, hj, hs, cU]
  rw [if_pos (by simp; omega)]
  rfl
 ·rename_i A a hx
  obtain ⟨rfl, k, m, hj, hm, rfl⟩ := c1f hr
  simp only [opD, ht, hx, hj, hs, cU]
  rw [if_pos (by simp; omega)]
  rfl
 ·exact absurd hr Rs.ar
theorem b9R (i : Nat) (x : Operand) : LowPl P ⟨dst, .extract x i, type, pos, after, guard⟩ (.ext i (iV x)) := fun C f l H v H1 hf hr => by
 have hr : (c1S i (iV x) f H).Is v H1 := hr
 unfold c1S at hr
 rw [jR hf] at hr
 split at hr
 ·rename_i vs hx
  obtain ⟨h1, rfl⟩ := b5v hr
  rw [xU] at h1
  simp only [opD, hx]
  simp [h1]
 ·exact absurd hr Rs.ar
theorem b8w {c : Call} {elem : TypeId} (hc : c.callee = .builtin .len) (h1 : c.args.size = 1) (h2 : c.argTypes.size = 1) (ht : P.underlying (c.argTypes.getD 0 0) = some (.slice elem)) : LowPl P ⟨dst, .call c, type, pos, after, guard⟩ (.len (iV (c.args.getD 0 (.tmp 0)))) := fun C f l H v H1 hf hr => by
 have hr : (c1n (iV (c.args.getD 0 (.tmp 0))) f H).Is v H1 := hr
 unfold c1n at hr
 rw [jR hf] at hr
 split at hr
 ·rename_i a n k hx
  obtain ⟨rfl, rfl⟩ := Rs.aN hr
  simp only [opD, hc, h1, h2, ht, hx, wY]; rfl
 ·exact absurd hr Rs.ar
theorem b5K {c : Call} (hc : c.callee = .builtin .len) (h1 : c.args.size = 1) (h2 : c.argTypes.size = 1) (ht : P.underlying (c.argTypes.getD 0 0) = some .string) : LowPl P ⟨dst, .call c, type, pos, after, guard⟩ (.slen (iV (c.args.getD 0 (.tmp 0)))) := fun C f l H v H1 hf hr => by
 have hr : (b4T (iV (c.args.getD 0 (.tmp 0))) f H).Is v H1 := hr
 unfold b4T at hr
 rw [jR hf] at hr
 split at hr
 ·rename_i s hx
  obtain ⟨rfl, rfl⟩ := Rs.aN hr
  simp only [opD, hc, h1, h2, ht, hx, wY]; rfl
 ·exact absurd hr Rs.ar
theorem b8V {c : Call} {elem : TypeId} {size bytes : Nat} {z : Value} (hc : c.callee = .builtin .append) (h1 : c.args.size = 2) (h2 : c.argTypes.size = 2) (hi : ((P.underlying (c.argTypes.getD 1 0)).map pS) = some true)
 (he : iG P (c.argTypes.getD 0 0) = some elem) (hs : iD P elem = some size) (hb : nM P elem = some bytes) (hz : jA P elem = some z) (hzs : z.cells.size = size) (hs0 : size ≠ 0) :
 LowPl P ⟨dst, .call c, type, pos, after, guard⟩ (.app elem size bytes (iV (c.args.getD 0 (.tmp 0))) (iV (c.args.getD 1 (.tmp 0)))) := fun C f l H v H1 hf hr => by
 have hr : (c2m P elem size bytes (iV (c.args.getD 0 (.tmp 0))) (iV (c.args.getD 1 (.tmp 0))) f H).Is v H1 := hr
 unfold c2m at hr
 rw [jR hf, jR hf] at hr
 have hD : opD P ⟨dst, .call c, type, pos, after, guard⟩ l H = nH P H (c.argTypes.getD 0 0) (ev l (c.args.getD 0 (.tmp 0))) (ev l (c.args.getD 1 (.tmp 0))) := by
  simp only [opD, hc, h1, h2, hi]; rfl
 rw [hD]
 unfold nH
 rw [he, cU, hs, cU, hb, cU, hz, cU]
 split at hr
 ·rename_i n m hsrc
  rw [hsrc, cU]
  unfold c3W at hr
  split at hr
  ·rename_i k cc hx
   obtain ⟨g1, hq1⟩ := lA hr
   obtain ⟨g2, hq2⟩ := lA hq1
   obtain ⟨g3, hq⟩ := lA hq2
   clear hr hq1 hq2
   obtain rfl : k = 0 := dQ g1
   obtain rfl : cc = 0 := dQ g2
   have g3 : n * (bytes + 1) ≤ oS := ed g3
   simp only [hx]
   rw [if_pos (by simp [hs0, hzs, g3])]
   rw [kN] at hq
   by_cases hn : n = 0
   ·subst hn
    rw [if_pos (by rfl)] at hq
    obtain ⟨rfl, rfl⟩ := Rs.aK hq
    simp
   ·rw [if_neg (fun e => hn (dQ e))] at hq
    obtain ⟨rfl, rfl⟩ := Rs.aN hq
    simp [hn]
  ·rename_i A i e k cc hx
   unfold c2W at hr
   split at hr
   ·rename_i cs ty lo ver hg
    obtain ⟨g2, hr⟩ := lA hr
    obtain ⟨g4, hr⟩ := lA hr
    obtain ⟨g5, hr⟩ := lA hr
    have g2 : (ty == elem || iD P ty == some size) = true := by
     rw [c4C] at g2
     cases hh : (ty == elem) with
     | true => rfl
     | false => rw [hh] at g2; exact g2
    rw [yI] at g4
    have g4 : e = cs.length := by simpa only [decide_eq_true_eq] using g4
    have g5 : lo ≤ e := ed g5
    simp only [hx, hg]
    rw [kN] at hr
    by_cases g3 : i + k * size = e
    ·rw [if_pos (by simpa using g3)] at hr
     obtain ⟨g1, hr⟩ := lA hr
     obtain ⟨rfl, rfl⟩ := Rs.aN hr
     have g1 : (k + n) * (bytes + 1) ≤ oS := ed g1
     have et : (Bool.rec (motive := fun _ => Nat) 2 ver (Nat.beq ty elem)) = (if (ty == elem) = true then ver else 2) := by
      rw [c4C]
      cases hh : (ty == elem) with
      | true => rfl
      | false => rfl
     rw [et, if_pos (by simp only [g2, fi, cT, bne_iff_ne, beq_iff_eq, decide_eq_true_eq]; exact ⟨⟨⟨⟨⟨hs0, g1⟩, by simpa using hzs⟩, g3⟩, g4⟩, g5⟩)]
    ·rw [if_neg (by simpa using g3)] at hr
     rw [kN] at hr
     by_cases hn : n = 0
     ·rw [if_pos (by simpa using hn)] at hr
      exact absurd hr Rs.ar
     ·rw [if_neg (by simpa using hn)] at hr
      obtain ⟨g6, hr⟩ := lA hr
      obtain ⟨rfl, rfl⟩ := Rs.aN hr
      have g6 : i + (k + n) * size ≤ e := ed g6
      rw [if_neg (by simp [g3]), if_pos (by simp only [g2, fi, cT, bne_iff_ne, beq_iff_eq, decide_eq_true_eq]; exact ⟨⟨⟨⟨⟨hs0, hn⟩, by simpa using hzs⟩, g6⟩, g4⟩, g5⟩), g4]
   ·exact absurd hr Rs.ar
  ·exact absurd hr Rs.ar
 ·exact absurd hr Rs.ar
theorem b2A {c : Call} {k : FuncId} (hc : c.callee = .value (.func k)) (hok : (Op.call c).operands.toList.all iP = true) : vY P ⟨dst, .call c, type, pos, after, guard⟩ (.callF k (kO k) (c.args.toList.map iV)) := fun C H0 f l H v H1 hC hk hf hr => by
 have hr : (a3T f (c.args.toList.map iV) fun l => C.fn (kO k) k l H).Is v H1 := hr
 rw [a7l hf] at hr
 obtain ⟨h1 | hx, h2⟩ := hC.fn _ _ _ _ _ _ hk hr rfl
 case inr => exact ⟨.ext hok c (.func k) k #[] #[] rfl hc rfl (by simpa using hx), h2⟩
 obtain ⟨he, v', H', hcall, rfl, rfl⟩ := h1.fn
 exact ⟨.call hok c (.func k) k #[] #[] rfl hc rfl he (by simpa using hcall), h2⟩
theorem b3O {c : Call} {g : Operand} (hc : c.callee = .value g) (hok : (Op.call c).operands.toList.all iP = true) : vY P ⟨dst, .call c, type, pos, after, guard⟩ (.callV (iV g) (c.args.toList.map iV)) := fun C H0 f l H v H1 hC hk hf hr => by
 have hr : (a3T f (c.args.toList.map iV) fun l => a9h C l H (mL f (iV g))).Is v H1 := hr
 rw [a7l hf, jR hf] at hr
 unfold a9h at hr
 split at hr
 ·rename_i k a b hg
  rw [jX, lI] at hr
  obtain ⟨h1 | hx, h2⟩ := hC.fn _ _ _ _ _ _ hk hr rfl
  case inr => exact ⟨.ext hok c g k ⟨a⟩ ⟨b⟩ rfl hc hg (by simpa [yP] using hx), h2⟩
  obtain ⟨he, v', H', hcall, rfl, rfl⟩ := h1.fn
  exact ⟨.call hok c g k ⟨a⟩ ⟨b⟩ rfl hc hg he (by simpa [yP] using hcall), h2⟩
 ·rename_i L a b hg
  obtain ⟨h1, h2⟩ := hC.rd _ _ _ _ _ hk hr
  exact ⟨.round hok c g L _ _ rfl hc hg h1, h2⟩
 ·exact absurd hr Rs.ar
end
set_option maxHeartbeats 1000000 in
theorem b1n {α : Type} (o : Oper) (K : LOp → α) : ∃ lo, vY P o lo ∧ xQ P o K = K lo := by
 unfold xQ
 rw [kN]
 by_cases hok : o.op.operands.toList.all iP = true
 case neg => rw [if_neg hok]; exact ⟨_, b7A o, rfl⟩
 rw [if_pos hok]
 have gen : ∃ lo, vY P o lo ∧ K (.gen o) = K lo := ⟨_, (b8X o).low hok, rfl⟩
 obtain ⟨dst, op, type, pos, after, guard⟩ := o
 unfold c3X
 cases op with
 | move x => simp only [kV]; exact ⟨_, (c0M x).low hok, rfl⟩
 | assign x => simp only [kV]; exact ⟨_, (c1M x).low hok, rfl⟩
 | pick c a b => simp only [kV]; exact ⟨_, (b6u c a b).low hok, rfl⟩
 | binOp op t x y yt =>
   simp only [kV, kN]
   split
   ·split
    ·rename_i g hg; exact ⟨_, (b8t hg t yt x y).low hok, rfl⟩
    ·exact gen
   ·exact gen
 | load t x =>
   simp only [kV]
   split
   ·rename_i ht
    cases hn : iD P t with
    | none => exact gen
    | some n => rw [pD]; exact ⟨_, (b7V ht hn x).low hok, rfl⟩
   ·rename_i ht; exact ⟨_, (b9T ht x).low hok, rfl⟩
   ·exact gen
 | store t x y =>
   simp only [kV]
   cases hn : iD P t with
   | none => exact gen
   | some n => rw [pD]; exact ⟨_, (c2K hn x y).low hok, rfl⟩
 | fieldAddr s x k =>
   simp only [kV]
   split
   ·rename_i fd hfd
    split
    ·exact gen
    ·rename_i n hn0 hn
     rw [jX]
     exact ⟨_, (c0Y hfd hn (fun e => hn0 e) x).low hok, rfl⟩
    ·exact gen
   ·exact gen
 | indexAddr t x i =>
   simp only [kV]
   split
   ·rename_i elem ht
    cases hs : iD P elem with
    | none => exact gen
    | some n => rw [pD]; exact ⟨_, (b8g ht hs x i).low hok, rfl⟩
   ·rename_i n elem ht
    cases hs : iD P elem with
    | none => exact gen
    | some m => rw [pD]; exact ⟨_, (b7K ht hs x i).low hok, rfl⟩
   ·exact gen
 | extract t i => simp only [kV]; rw [jX]; exact ⟨_, (b9R i t).low hok, rfl⟩
 | call c =>
   simp only
   unfold b6k
   split
   ·rename_i k hc
    rw [lI, a3v]
    exact ⟨_, b2A hc hok, rfl⟩
   ·rename_i g _ hc
    rw [kV, a3v]
    exact ⟨_, b3O hc hok, rfl⟩
   ·rename_i hc
    rw [kN]
    split
    ·rename_i h1
     simp only [cT, beq_iff_eq] at h1
     split
     ·rename_i elem ht; rw [kV]; exact ⟨_, (b8w hc h1.1 h1.2 ht).low hok, rfl⟩
     ·rename_i ht; rw [kV]; exact ⟨_, (b5K hc h1.1 h1.2 ht).low hok, rfl⟩
     ·exact gen
    ·exact gen
   ·rename_i hc
    rw [kN]
    split
    ·rename_i h1
     simp only [cT, beq_iff_eq] at h1
     split
     ·rename_i elem he
      cases hs : iD P elem with
      | none => exact gen
      | some size =>
        rw [pD]
        cases hb : nM P elem with
        | none => exact gen
        | some bytes =>
          rw [pD]
          split
          ·rename_i z hz
           rw [kN]
           split
           ·rename_i h2
            simp only [cT, beq_iff_eq, bne_iff_ne] at h2
            rw [jX, kV, kV]
            exact ⟨_, (b8V hc h1.1.1 h1.1.2 h1.2 he hs hb hz h2.1 h2.2).low hok, rfl⟩
           ·exact gen
          ·exact gen
     ·exact gen
    ·exact gen
   ·exact gen
 | _ => exact gen
def DOk (k : Nat) (dst : Option Tmp) (d : Option Pth) : Prop := (dst = none ∧ d = none) ∨ ∃ t, dst = some t ∧ t < k ∧ d = some (kO t)
inductive LowOps (P : Program) (k : Nat) (ops : Array Oper) : List Oper → LOps → Prop
 | nil : LowOps P k ops [] .nil
 | cons {o : Oper} {os : List Oper} {d : Option Pth} {lo : LOp} {r : LOps} (hd : DOk k o.dst d) (ho : vY P o lo) (hg : o.guard = none) (hr : LowOps P k ops os r) : LowOps P k ops (o :: os) (.cons d lo r)
 | gcons {o : Oper} {os : List Oper} {d : Option Pth} {lo : LOp} {r : LOps} {j t : Nat} {w : Bool} (hd : DOk k o.dst d) (ho : vY P o lo) (hg : o.guard = some (j, w)) (ht : (ops[j]?).bind (·.dst) = some t) (htk : t < k) (hr : LowOps P k ops os r) : LowOps P k ops (o :: os) (.gcons (kO t) w d lo r)
def GOk (ops : Array Oper) (o : Oper) (g : Option (Pth × Bool)) : Prop := (o.guard = none ∧ g = none) ∨ ∃ j w t, o.guard = some (j, w) ∧ (ops[j]?).bind (·.dst) = some t ∧ g = some (kO t, w)
theorem GOk.runs {ops : Array Oper} {o : Oper} {g : Option (Pth × Bool)} (h : GOk ops o g) {f : Fr} {l : List Value} (hf : FAg f l) (hw : Region.wanted o (iU ops l) = true) : b5S f g = true := by
 rcases h with ⟨_, rfl⟩ | ⟨j, w, t, hg, ht, rfl⟩
 ·rfl
 ·simp only [Region.wanted, hg, iU, ht] at hw
  show isB (nT (kO t) f) w = true
  rw [hf t, nY, cX]
  cases hl : l[t]? with
  | none => rw [hl] at hw; simp at hw
  | some v =>
    rw [hl] at hw
    cases v <;> simp at hw
    subst hw
    rename_i b
    cases b <;> rfl
inductive LowTab (P : Program) (ops : Array Oper) : List (Nat × Nat) → List (Nat × Option Nat × Option (Pth × Bool) × LOp) → Prop
 | nil : LowTab P ops [] []
 | cons {i m : Nat} {o : Oper} {lo : LOp} {tab : List (Nat × Nat)} {t : List (Nat × Option Nat × Option (Pth × Bool) × LOp)} {g : Option (Pth × Bool)} (ho : ops[i]? = some o) (hgd : GOk ops o g) (hl : vY P o lo) (hr : LowTab P ops tab t) :
    LowTab P ops ((i, m) :: tab) ((ops.size - 1 - i, if m < ops.size then some (ops.size - 1 - m) else none, g, lo) :: t)
inductive Low (P : Program) (k : Nat) : Code → LCode → Prop
 | bad (c : Code) : Low P k c .bad
 | skip : Low P k .skip .skip
 | label (t : Nat) : Low P k (.label t) .skip
 | reg {id : Nat} {ops : Array Oper} {d : Bool} {lo : LOps} (h : LowOps P k ops ops.toList lo) (hd : d = true → mT P ops = some []) : Low P k (.region id ops d) (.reg lo)
 | drw {id : Nat} {ops : Array Oper} {lo : LOps} {tab : List (Nat × Nat)} {t : List (Nat × Option Nat × Option (Pth × Bool) × LOp)} (h : LowOps P k ops ops.toList lo) (ht : mT P ops = some tab) (hl : LowTab P ops tab t) : Low P k (.region id ops true) (.drw lo t)
 | seq {a b : Code} {A B : LCode} (ha : Low P k a A) (hb : Low P k b B) : Low P k (.seq a b) (.seq A B)
 | cond {c : Operand} {x y : Code} {X Y : LCode} (hc : iP c = true) (hx : Low P k x X) (hy : Low P k y Y) : Low P k (.cond c x y) (.cond (iV c) X Y)
 | block {id : Nat} {b : Code} {B : LCode} (hb : Low P k b B) : Low P k (.block id b) (.block id B)
 | loop {b : Code} {B : LCode} (hb : Low P k b B) : Low P k (.loop b) (.loop B)
 | exit (id : Nat) : Low P k (.exit id) (.exit id)
 | ret : Low P k .ret .ret
 | range {g : Operand} {ps : Array Tmp} {assign body : Code} {A B : LCode} (hg : iP g = true) (hps : ∀ t ∈ ps.toList, t < k) (ha : Low P k assign A) (hb : Low P k body B) :
    Low P k (.rangeFunc g ps assign body) (.range (iV g) ((List.range k).map kO) (ps.toList.map kO) ps assign body A B)
section
variable {α : Type}
theorem b5F (k : Nat) (dst : Option Tmp) (no : α) (K : Option Pth → α) : (∃ d, DOk k dst d ∧ a6l k dst no K = K d) ∨ a6l k dst no K = no := by
 cases dst with
 | none => exact .inl ⟨none, .inl ⟨rfl, rfl⟩, rfl⟩
 | some t =>
   simp only [a6l, kN]
   split
   ·rename_i h
    rw [lI]
    rw [blt_eq] at h
    exact .inl ⟨_, .inr ⟨t, rfl, by simpa using h, rfl⟩, rfl⟩
   ·exact .inr rfl
theorem a1P (k : Nat) (ops : Array Oper) (l : List Oper) (K : LOps → α) (no : α) : (∃ L, LowOps P k ops l L ∧ uF P k ops l K no = K L) ∨ uF P k ops l K no = no := by
 induction l generalizing K with
 | nil => exact .inl ⟨_, .nil, rfl⟩
 | cons o l ih =>
   let K2 : Option Pth → LOp → α := fun d o' => match o.guard with
    | none => uF P k ops l (fun r => K (.cons d o' r)) no
    | some (j, w) => match (ops[j]?).bind (·.dst) with
      | some t => nR (Nat.blt t k) no (lJ (kO t) fun p => zU w fun w => uF P k ops l (fun r => K (.gcons p w d o' r)) no)
      | none => no
   have e : uF P k ops (o :: l) K no = a6l k o.dst no fun d => xQ P o fun o' => K2 d o' := rfl
   rw [e]
   rcases b5F k o.dst no (fun d => xQ P o fun o' => K2 d o') with ⟨d, hd, h1⟩ | h1
   ·rw [h1]
    obtain ⟨lo, hlo, h2⟩ := b1n (P := P) o (fun o' => K2 d o')
    rw [h2]
    simp only [K2]
    split
    ·rename_i hg
     rcases ih (fun r => K (.cons d lo r)) with ⟨L, hL, h3⟩ | h3
     ·exact .inl ⟨_, .cons hd hlo hg hL, h3⟩
     ·exact .inr h3
    ·rename_i j w hg
     split
     ·rename_i t ht
      rw [kN]
      split
      ·rename_i htk
       rw [lI, vH]
       rw [blt_eq] at htk
       rcases ih (fun r => K (.gcons (kO t) w d lo r)) with ⟨L, hL, h3⟩ | h3
       ·exact .inl ⟨_, .gcons hd hlo hg ht (by simpa using htk) hL, h3⟩
       ·exact .inr h3
      ·exact .inr rfl
     ·exact .inr rfl
   ·exact .inr h1
theorem c0V (k : Nat) (ops : Array Oper) (o : Oper) (no : α) (K : Option (Pth × Bool) → α) : (∃ g, GOk ops o g ∧ loG k ops o.guard no K = K g) ∨ loG k ops o.guard no K = no := by
 cases hg : o.guard with
 | none => exact .inl ⟨none, .inl ⟨hg, rfl⟩, rfl⟩
 | some x =>
   obtain ⟨j, w⟩ := x
   unfold loG
   cases ht : (ops[j]?).bind (·.dst) with
   | none => exact .inr (by simp only [ht])
   | some t =>
     simp only [ht, kN]
     split
     ·refine .inl ⟨some (kO t, w), .inr ⟨j, w, t, hg, ht, rfl⟩, ?_⟩
      rw [lI, vH]
     ·exact .inr rfl
theorem b5w (k : Nat) (ops : Array Oper) (tab : List (Nat × Nat)) (K : List (Nat × Option Nat × Option (Pth × Bool) × LOp) → α) (no : α) : (∃ t, LowTab P ops tab t ∧ tJ P k ops ops.size tab K no = K t) ∨ tJ P k ops ops.size tab K no = no := by
 induction tab generalizing K with
 | nil => exact .inl ⟨_, .nil, rfl⟩
 | cons x tab ih =>
   obtain ⟨i, m⟩ := x
   cases ho : ops[i]? with
   | none =>
     refine .inr ?_
     show (match ops[i]? with
      | some o => _
      | none => no) = no
     rw [ho]
   | some o =>
     let K2 : Option (Pth × Bool) → LOp → α := fun g o' => kB (ops.size - 1 - i) fun i => nR (Nat.blt m ops.size) (tJ P k ops ops.size tab (fun l => K ((i, none, g, o') :: l)) no) (kB (ops.size - 1 - m) fun m => tJ P k ops ops.size tab (fun l => K ((i, some m, g, o') :: l)) no)
     have e : tJ P k ops ops.size ((i, m) :: tab) K no = loG k ops o.guard no fun g => xQ P o fun o' => K2 g o' := by
      show (match ops[i]? with
       | some o => loG k ops o.guard no fun g => xQ P o fun o' => K2 g o'
       | none => no) = _
      rw [ho]
     rw [e]
     rcases c0V k ops o no (fun g => xQ P o fun o' => K2 g o') with ⟨g, hgd, h1⟩ | h1
     ·rw [h1]
      obtain ⟨lo, hlo, h2⟩ := b1n (P := P) o (fun o' => K2 g o')
      rw [h2]
      show (∃ t, _ ∧ kB (ops.size - 1 - i) (fun i => nR (Nat.blt m ops.size) (tJ P k ops ops.size tab (fun l => K ((i, none, g, lo) :: l)) no) (kB (ops.size - 1 - m) fun m => tJ P k ops ops.size tab (fun l => K ((i, some m, g, lo) :: l)) no)) = K t) ∨ kB (ops.size - 1 - i) (fun i => nR (Nat.blt m ops.size) (tJ P k ops ops.size tab (fun l => K ((i, none, g, lo) :: l)) no) (kB (ops.size - 1 - m) fun m => tJ P k ops ops.size tab (fun l => K ((i, some m, g, lo) :: l)) no)) = no
      rw [jX, kN, jX, blt_eq]
      by_cases hm : m < ops.size
      ·rw [if_pos (by simpa using hm)]
       rcases ih (fun l => K ((ops.size - 1 - i, some (ops.size - 1 - m), g, lo) :: l)) with ⟨t, ht, h3⟩ | h3
       ·have := LowTab.cons (m := m) ho hgd hlo ht
        rw [if_pos hm] at this
        exact .inl ⟨_, this, h3⟩
       ·exact .inr h3
      ·rw [if_neg (by simpa using hm)]
       rcases ih (fun l => K ((ops.size - 1 - i, none, g, lo) :: l)) with ⟨t, ht, h3⟩ | h3
       ·have := LowTab.cons (m := m) ho hgd hlo ht
        rw [if_neg hm] at this
        exact .inl ⟨_, this, h3⟩
       ·exact .inr h3
     ·exact .inr h1
theorem b2N (k : Nat) (l : List Tmp) (K : List Pth → α) (no : α) : ((∀ t ∈ l, t < k) ∧ wV k l K no = K (l.map kO)) ∨ wV k l K no = no := by
 induction l generalizing K with
 | nil => exact .inl ⟨by simp, rfl⟩
 | cons t l ih =>
   show _ ∨ nR (Nat.blt t k) no (lJ (kO t) fun p => wV k l (fun l => K (p :: l)) no) = no
   have e : wV k (t :: l) K no = nR (Nat.blt t k) no (lJ (kO t) fun p => wV k l (fun l => K (p :: l)) no) := rfl
   rw [e, kN, lI, blt_eq]
   by_cases h : t < k
   ·rw [if_pos (by simpa using h)]
    rcases ih (fun l => K (kO t :: l)) with ⟨h1, h2⟩ | h2
    ·exact .inl ⟨by simpa using ⟨h, h1⟩, h2⟩
    ·exact .inr h2
   ·rw [if_neg (by simpa using h)]; exact .inr rfl
theorem b3H (k : Nat) (c : Code) (K : LCode → α) : ∃ C, Low P k c C ∧ mZ P k c K = K C := by
 induction c generalizing K with
 | skip => exact ⟨_, .skip, rfl⟩
 | region id ops d =>
   cases d with
   | false =>
     show ∃ C, _ ∧ uF P k ops ops.toList (fun l => K (.reg l)) (K .bad) = K C
     rcases a1P (P := P) k ops ops.toList (fun l => K (.reg l)) (K .bad) with ⟨L, hL, h⟩ | h
     ·exact ⟨_, .reg hL (fun h => by cases h), h⟩
     ·exact ⟨_, .bad _, h⟩
   | true =>
     show ∃ C, _ ∧ (match mT P ops with
      | some [] => uF P k ops ops.toList (fun l => K (.reg l)) (K .bad)
      | some tab => uF P k ops ops.toList (fun l => tJ P k ops ops.size tab (fun t => K (.drw l t)) (K .bad)) (K .bad)
      | none => K .bad) = K C
     split
     ·rename_i hd
      rcases a1P (P := P) k ops ops.toList (fun l => K (.reg l)) (K .bad) with ⟨L, hL, h⟩ | h
      ·exact ⟨_, .reg hL (fun _ => hd), h⟩
      ·exact ⟨_, .bad _, h⟩
     ·rename_i tab _ hd
      rcases a1P (P := P) k ops ops.toList (fun l => tJ P k ops ops.size tab (fun t => K (.drw l t)) (K .bad)) (K .bad) with ⟨L, hL, h⟩ | h
      ·rw [h]
       rcases b5w (P := P) k ops tab (fun t => K (.drw L t)) (K .bad) with ⟨t, ht, h2⟩ | h2
       ·exact ⟨_, .drw hL hd ht, h2⟩
       ·exact ⟨_, .bad _, h2⟩
      ·exact ⟨_, .bad _, h⟩
     ·exact ⟨_, .bad _, rfl⟩
 | seq a b iha ihb =>
   show ∃ C, _ ∧ mZ P k a (fun a => mZ P k b fun b => K (.seq a b)) = K C
   obtain ⟨A, hA, h1⟩ := iha (fun a => mZ P k b fun b => K (.seq a b))
   obtain ⟨B, hB, h2⟩ := ihb (fun b => K (.seq A b))
   exact ⟨_, .seq hA hB, h1.trans h2⟩
 | cond c x y ihx ihy =>
   show ∃ C, _ ∧ nR (iP c) (K .bad) (lO c fun c => mZ P k x fun x => mZ P k y fun y => K (.cond c x y)) = K C
   rw [kN]
   split
   ·rename_i hc
    rw [kV]
    obtain ⟨X, hX, h1⟩ := ihx (fun x => mZ P k y fun y => K (.cond (iV c) x y))
    obtain ⟨Y, hY, h2⟩ := ihy (fun y => K (.cond (iV c) X y))
    exact ⟨_, .cond hc hX hY, h1.trans h2⟩
   ·exact ⟨_, .bad _, rfl⟩
 | block id b ih =>
   show ∃ C, _ ∧ kB id (fun id => mZ P k b fun b => K (.block id b)) = K C
   rw [jX]
   obtain ⟨B, hB, h1⟩ := ih (fun b => K (.block id b))
   exact ⟨_, .block hB, h1⟩
 | loop b ih =>
   show ∃ C, _ ∧ mZ P k b (fun b => K (.loop b)) = K C
   obtain ⟨B, hB, h1⟩ := ih (fun b => K (.loop b))
   exact ⟨_, .loop hB, h1⟩
 | rangeFunc g ps assign body iha ihb =>
   show ∃ C, _ ∧ nR (iP g) (K .bad) (lO g fun g' => b2c k fun pp => wV k ps.toList (fun q => mZ P k assign fun a => mZ P k body fun b => K (.range g' pp q ps assign body a b)) (K .bad)) = K C
   rw [kN]
   split
   ·rename_i hg
    rw [kV, b0V]
    rcases b2N k ps.toList (fun q => mZ P k assign fun a => mZ P k body fun b => K (.range (iV g) ((List.range k).map kO) q ps assign body a b)) (K .bad) with ⟨hps, h⟩ | h
    ·obtain ⟨A, hA, h1⟩ := iha (fun a => mZ P k body fun b => K (.range (iV g) ((List.range k).map kO) (ps.toList.map kO) ps assign body a b))
     obtain ⟨B, hB, h2⟩ := ihb (fun b => K (.range (iV g) ((List.range k).map kO) (ps.toList.map kO) ps assign body A b))
     exact ⟨_, .range hg hps hA hB, h.trans (h1.trans h2)⟩
    ·exact ⟨_, .bad _, h⟩
   ·exact ⟨_, .bad _, rfl⟩
 | exit id =>
   show ∃ C, _ ∧ kB id (fun id => K (.exit id)) = K C
   rw [jX]
   exact ⟨_, .exit id, rfl⟩
 | label t => exact ⟨_, .label t, rfl⟩
 | ret => exact ⟨_, .ret, rfl⟩
 | scope b _ => exact ⟨_, .bad _, rfl⟩
 | goto t => exact ⟨_, .bad _, rfl⟩
 | refuse w => exact ⟨_, .bad _, rfl⟩
end
theorem vF {α : Type} {k : Nat} {f : Fr} {l : List Value} (h : FRel k f l) {dst : Option Tmp} {d : Option Pth} (hd : DOk k dst d) (v : Value) (K : Fr → α) : ∃ f', uG d v f K = K f' ∧ FRel k f' (put l dst v) := by
 rcases hd with ⟨rfl, rfl⟩ | ⟨t, rfl, ht, rfl⟩
 ·exact ⟨f, rfl, h⟩
 ·exact ⟨b5b f t v, sL v (kO t) f K, h.put ht v⟩
theorem zA {ops : Array Oper} {l : List Value} {j t : Nat} (ht : (ops[j]?).bind (·.dst) = some t) (htl : t < l.length) (w : Bool) : (iU ops l j == some w) = isB (get l t) w := by
 have hg : get l t = l[t] := by rw [nY]; simp [htl]
 unfold iU
 rw [ht, hg]
 simp only [dh htl]
 cases hv : l[t] <;> simp [isB]
 rename_i b
 cases b <;> cases w <;> rfl
theorem b8F {k : Nat} {ops : Array Oper} {C : Calls'} {H0 : Heap} (hC : CallsOk P C H0) {os : List Oper} {lo : LOps} (hlo : LowOps P k ops os lo) : ∀ {i : Nat}, ops.toList.drop i = os → ∀ {f : Fr} {l : List Value} {H : Heap} {f1 : Fr} {H1 : Heap},
 FRel k f l → LK H0 H → xP P C lo f H = .ok f1 H1 → ∃ l1, FRel k f1 l1 ∧ OpsR P ops (List.range' i os.length) l H l1 H1 ∧ LK H H1 := by
 induction hlo with
 | nil =>
   intro i _ f l H f1 H1 hf _ h
   injection h with h1 h2
   subst h1 h2
   exact ⟨l, hf, .nil l H, .refl H⟩
 | @cons o os d lo r hd ho hg hr ih =>
   intro i hi f l H f1 H1 hf hk h
   have hio : ops[i]? = some o := by
    have : (ops.toList.drop i)[0]? = some o := by rw [hi]; rfl
    rw [dB] at this
    simpa using this
   have hi' : ops.toList.drop (i + 1) = os := by rw [← fo, hi]; rfl
   have hw : Region.wanted o (iU ops l) = true := by simp [Region.wanted, hg]
   have h : b1E Rf.no d f (xP P C r) (opF P C lo f H) = .ok f1 H1 := h
   have key : ∀ v H2, (opF P C lo f H).Is v H2 → (uG d v f fun f => xP P C r f H2) = .ok f1 H1 → ∃ l1, FRel k f1 l1 ∧ OpsR P ops (List.range' i (o :: os).length) l H l1 H1 ∧ LK H H1 := by
    intro v H2 hop hrest
    obtain ⟨hs, hk2⟩ := ho C H0 f l H v H2 hC hk hf.2 hop
    obtain ⟨f', e, hf'⟩ := vF hf hd v (fun f => xP P C r f H2)
    rw [e] at hrest
    obtain ⟨l1, h1, h2, h3⟩ := ih hi' hf' (hk.trans hk2) hrest
    exact ⟨l1, h1, .step hio hw hs h2, hk2.trans h3⟩
   cases hop : opF P C lo f H with
   | no => rw [hop] at h; cases h
   | ok v H2 => rw [hop] at h; exact key v H2 (.inl hop) h
   | th v H2 =>
     rw [hop] at h
     have h : yD v (fun v => nJ H2 fun H2 => uG d v f fun f => xP P C r f H2) = .ok f1 H1 := h
     rw [yQ, lS] at h
     exact key v H2 (.inr hop) h
 | @gcons o os d lo r j t w hd ho hg ht htk hr ih =>
   intro i hi f l H f1 H1 hf hk h
   have hio : ops[i]? = some o := by
    have : (ops.toList.drop i)[0]? = some o := by rw [hi]; rfl
    rw [dB] at this
    simpa using this
   have hi' : ops.toList.drop (i + 1) = os := by rw [← fo, hi]; rfl
   have hwi : Region.wanted o (iU ops l) = isB (nT (kO t) f) w := by
    simp only [Region.wanted, hg]
    rw [zA ht (by rw [hf.1]; exact htk) w, hf.2 t]
   have h : nR (isB (nT (kO t) f) w) (uG d undef f fun f => xP P C r f H) (b1E Rf.no d f (xP P C r) (opF P C lo f H)) = .ok f1 H1 := h
   rw [kN] at h
   split at h
   ·rename_i hb
    have key : ∀ v H2, (opF P C lo f H).Is v H2 → (uG d v f fun f => xP P C r f H2) = .ok f1 H1 → ∃ l1, FRel k f1 l1 ∧ OpsR P ops (List.range' i (o :: os).length) l H l1 H1 ∧ LK H H1 := by
     intro v H2 hop hrest
     obtain ⟨hs, hk2⟩ := ho C H0 f l H v H2 hC hk hf.2 hop
     obtain ⟨f', e, hf'⟩ := vF hf hd v (fun f => xP P C r f H2)
     rw [e] at hrest
     obtain ⟨l1, h1, h2, h3⟩ := ih hi' hf' (hk.trans hk2) hrest
     exact ⟨l1, h1, .step hio (by rw [hwi, hb]) hs h2, hk2.trans h3⟩
    cases hop : opF P C lo f H with
    | no => rw [hop] at h; cases h
    | ok v H2 => rw [hop] at h; exact key v H2 (.inl hop) h
    | th v H2 =>
      rw [hop] at h
      have h : yD v (fun v => nJ H2 fun H2 => uG d v f fun f => xP P C r f H2) = .ok f1 H1 := h
      rw [yQ, lS] at h
      exact key v H2 (.inr hop) h
   ·rename_i hb
    obtain ⟨f', e, hf'⟩ := vF hf hd undef (fun f => xP P C r f H)
    rw [e] at h
    obtain ⟨l1, h1, h2, h3⟩ := ih hi' hf' hk h
    exact ⟨l1, h1, .past hio (by rw [hwi]; simpa using hb) h2, h3⟩
structure Noted (P : Program) (k : Nat) (ops : Array Oper) (H : Heap) (i n : Nat) (T : Nat → List Value × Heap) (val : Nat → Value) (tr0 tr : List (Fr × Heap × Value)) : Prop where
 step : ∀ j, i ≤ j → j < i + n → wA P ops j (T j) (T (j + 1)) (val j)
 new : ∀ j, i ≤ j → j < i + n → ∃ g, tr[i + n - 1 - j]? = some (g, (T j).2, val j) ∧ FAg g (T j).1
 old : ∀ m, tr[n + m]? = tr0[m]?
 lk : ∀ j, i ≤ j → j ≤ i + n → LK H (T j).2
theorem b5L {k : Nat} {ops : Array Oper} {C : Calls'} {H0 : Heap} (hC : CallsOk P C H0) {os : List Oper} {lo : LOps} (hlo : LowOps P k ops os lo) : ∀ {i : Nat}, ops.toList.drop i = os → ∀ {tr0 tr : List (Fr × Heap × Value)} {f : Fr} {l : List Value} {H : Heap} {f1 : Fr} {H1 : Heap},
 FRel k f l → LK H0 H → rA P C lo tr0 f H = .ok tr f1 H1 → ∃ T val l1, T i = (l, H) ∧ T (i + os.length) = (l1, H1) ∧ FRel k f1 l1 ∧ Noted P k ops H i os.length T val tr0 tr := by
 have more : ∀ {i n : Nat} {o : Oper} {tr0 tr : List (Fr × Heap × Value)} {f : Fr} {l : List Value} {H : Heap} {v : Value} {l2 : List Value} {H2 : Heap} {l1 : List Value} {H1 : Heap} {f1 : Fr}, FRel k f l → wA P ops i (l, H) (l2, H2) v → LK H H2 →
  (∃ T val l1, T (i + 1) = (l2, H2) ∧ T (i + 1 + n) = (l1, H1) ∧ FRel k f1 l1 ∧ Noted P k ops H2 (i + 1) n T val ((f, H, v) :: tr0) tr) →
  ∃ T val l1, T i = (l, H) ∧ T (i + (n + 1)) = (l1, H1) ∧ FRel k f1 l1 ∧ Noted P k ops H i (n + 1) T val tr0 tr := by
  intro i n o tr0 tr f l H v l2 H2 _ H1 f1 hf hst hk ⟨T, val, l1, h1, h2, h3, hN⟩
  refine ⟨fun j => if j ≤ i then (l, H) else T j, fun j => if j ≤ i then v else val j, l1, by simp, ?_, h3, ?_⟩
  ·show (if i + (n + 1) ≤ i then (l, H) else T (i + (n + 1))) = _
   rw [if_neg (by omega), ← h2]; congr 1; omega
  ·refine ⟨fun j hj hn => ?_, fun j hj hn => ?_, fun m => ?_, fun j hj hn => ?_⟩
   ·by_cases he : j = i
    ·subst he
     simp only [de, if_true]
     rw [if_neg (by omega), h1]
     exact hst
    ·rw [if_neg (by omega), if_neg (by omega), if_neg (by omega)]
     exact hN.step j (by omega) (by omega)
   ·by_cases he : j = i
    ·subst he
     simp only [de, if_true]
     refine ⟨f, ?_, hf.2⟩
     have := hN.old 0
     rw [show j + (n + 1) - 1 - j = n + 0 by omega, this]; rfl
    ·rw [if_neg (by omega), if_neg (by omega)]
     obtain ⟨g, hg, hag⟩ := hN.new j (by omega) (by omega)
     exact ⟨g, by rw [← hg]; congr 1; omega, hag⟩
   ·have := hN.old (m + 1)
    rw [show n + 1 + m = n + (m + 1) by omega, this]; rfl
   ·by_cases he : j = i
    ·subst he; simp only [de, if_true]; exact .refl H
    ·rw [if_neg (by omega)]; exact hk.trans (hN.lk j (by omega) (by omega))
 induction hlo with
 | nil =>
   intro i _ tr0 tr f l H f1 H1 hf _ h
   injection h with h1 h2 h3
   subst h1 h2 h3
   exact ⟨fun _ => (l, H), fun _ => undef, l, rfl, rfl, hf, fun j _ h => absurd h (by simp; omega), fun j _ h => absurd h (by simp; omega), fun m => by simp, fun _ _ _ => .refl H⟩
 | @cons o os d lo r hd ho hg hr ih =>
   intro i hi tr0 tr f l H f1 H1 hf hk h
   have hio : ops[i]? = some o := by
    have : (ops.toList.drop i)[0]? = some o := by rw [hi]; rfl
    rw [dB] at this
    simpa using this
   have hi' : ops.toList.drop (i + 1) = os := by rw [← fo, hi]; rfl
   have hw : Region.wanted o (iU ops l) = true := by simp [Region.wanted, hg]
   have h : b0U tr0 f H d (rA P C r) (opF P C lo f H) = .ok tr f1 H1 := h
   have key : ∀ v H2, (opF P C lo f H).Is v H2 → (uG d v f fun f2 => rA P C r ((f, H, v) :: tr0) f2 H2) = .ok tr f1 H1 → ∃ T val l1, T i = (l, H) ∧ T (i + (o :: os).length) = (l1, H1) ∧ FRel k f1 l1 ∧ Noted P k ops H i (o :: os).length T val tr0 tr := by
    intro v H2 hop hrest
    obtain ⟨hs, hk2⟩ := ho C H0 f l H v H2 hC hk hf.2 hop
    obtain ⟨f', e, hf'⟩ := vF hf hd v (fun f2 => rA P C r ((f, H, v) :: tr0) f2 H2)
    rw [e] at hrest
    have := ih hi' hf' (hk.trans hk2) hrest
    exact more (o := o) (l1 := l) hf ⟨o, hio, rfl, .inl ⟨hw, hs⟩⟩ hk2 this
   cases hop : opF P C lo f H with
   | no => rw [hop] at h; cases h
   | ok v H2 => rw [hop] at h; exact key v H2 (.inl hop) h
   | th v H2 =>
     rw [hop] at h
     have h : yD v (fun v => nJ H2 fun H2 => uG d v f fun f2 => rA P C r ((f, H, v) :: tr0) f2 H2) = .ok tr f1 H1 := h
     rw [yQ, lS] at h
     exact key v H2 (.inr hop) h
 | @gcons o os d lo r j t w hd ho hg ht htk hr ih =>
   intro i hi tr0 tr f l H f1 H1 hf hk h
   have hio : ops[i]? = some o := by
    have : (ops.toList.drop i)[0]? = some o := by rw [hi]; rfl
    rw [dB] at this
    simpa using this
   have hi' : ops.toList.drop (i + 1) = os := by rw [← fo, hi]; rfl
   have hwi : Region.wanted o (iU ops l) = isB (nT (kO t) f) w := by
    simp only [Region.wanted, hg]
    rw [zA ht (by rw [hf.1]; exact htk) w, hf.2 t]
   have h : nR (isB (nT (kO t) f) w) (uG d undef f fun f2 => rA P C r ((f, H, undef) :: tr0) f2 H) (b0U tr0 f H d (rA P C r) (opF P C lo f H)) = .ok tr f1 H1 := h
   rw [kN] at h
   split at h
   ·rename_i hb
    have key : ∀ v H2, (opF P C lo f H).Is v H2 → (uG d v f fun f2 => rA P C r ((f, H, v) :: tr0) f2 H2) = .ok tr f1 H1 → ∃ T val l1, T i = (l, H) ∧ T (i + (o :: os).length) = (l1, H1) ∧ FRel k f1 l1 ∧ Noted P k ops H i (o :: os).length T val tr0 tr := by
     intro v H2 hop hrest
     obtain ⟨hs, hk2⟩ := ho C H0 f l H v H2 hC hk hf.2 hop
     obtain ⟨f', e, hf'⟩ := vF hf hd v (fun f2 => rA P C r ((f, H, v) :: tr0) f2 H2)
     rw [e] at hrest
     exact more (o := o) (l1 := l) hf ⟨o, hio, rfl, .inl ⟨by rw [hwi, hb], hs⟩⟩ hk2 (ih hi' hf' (hk.trans hk2) hrest)
    cases hop : opF P C lo f H with
    | no => rw [hop] at h; cases h
    | ok v H2 => rw [hop] at h; exact key v H2 (.inl hop) h
    | th v H2 =>
      rw [hop] at h
      have h : yD v (fun v => nJ H2 fun H2 => uG d v f fun f2 => rA P C r ((f, H, v) :: tr0) f2 H2) = .ok tr f1 H1 := h
      rw [yQ, lS] at h
      exact key v H2 (.inr hop) h
   ·rename_i hb
    obtain ⟨f', e, hf'⟩ := vF hf hd undef (fun f2 => rA P C r ((f, H, undef) :: tr0) f2 H)
    rw [e] at h
    exact more (o := o) (l1 := l) hf ⟨o, hio, rfl, .inr ⟨by rw [hwi]; simpa using hb, rfl, rfl⟩⟩ (.refl H) (ih hi' hf' hk h)
theorem b0L {α : Type} (p : α → Bool) (l : List α) : b5i p l = l.all p := by
 induction l with
 | nil => rfl
 | cons x l ih =>
   show nR (p x) false (b5i p l) = _
   rw [kN, ih, fh]
   cases p x <;> rfl
theorem b9B {v : Value} {r : Rs} (h : b9M v r = true) : ∃ H, r.Is v H := by
 cases r with
 | no => cases h
 | ok w H => exact ⟨H, .inl (by rw [b5j (show veq w v = true from h)])⟩
 | th w H => exact ⟨H, .inr (by rw [b5j (show veq w v = true from h)])⟩
theorem LowTab.get {ops : Array Oper} {tab : List (Nat × Nat)} {t : List (Nat × Option Nat × Option (Pth × Bool) × LOp)} (h : LowTab P ops tab t) {i m : Nat} (hm : (i, m) ∈ tab) : ∃ o lo g, ops[i]? = some o ∧ GOk ops o g ∧ vY P o lo ∧ (ops.size - 1 - i, (if m < ops.size then some (ops.size - 1 - m) else none), g, lo) ∈ t := by
 induction h with
 | nil => cases hm
 | @cons i2 m2 o lo tab t g ho hgd hl hr ih =>
   rcases dS.1 hm with he | hm
   ·injection he with h1 h2
    subst h1 h2
    exact ⟨o, lo, g, ho, hgd, hl, by simp⟩
   ·obtain ⟨o', lo', g', h1, h0, h2, h3⟩ := ih hm
    exact ⟨o', lo', g', h1, h0, h2, dE _ h3⟩
theorem a9v {fl : Fl} {ops : Array Oper} {i m : Nat} (h : (i, m) ∈ mH fl ops) {o : Oper} (ho : ops[i]? = some o) : nQ o.op = true := by
 unfold mH at h
 simp only [eM] at h
 obtain ⟨⟨x, j⟩, hx, h⟩ := h
 dsimp only at h
 split at h
 ·rename_i hr
  simp only [dx] at h
  obtain ⟨m', _, e⟩ := h
  injection e with e1 e2
  subst e1
  have := gi.1 hx
  have : ops[j]? = some x := by simpa using this
  rw [this] at ho
  injection ho with ho
  subst ho
  exact hr
 ·cases h
theorem b7N (kE : P.follows .mixedOrders = true) {k id : Nat} {ops : Array Oper} {C : Calls'} {H : Heap} (hC : CallsOk P C H) {lo : LOps} {tab : List (Nat × Nat)} {t : List (Nat × Option Nat × Option (Pth × Bool) × LOp)} (hlo : LowOps P k ops ops.toList lo) (htab : mT P ops = some tab) (hl : LowTab P ops tab t)
 {f : Fr} {l : List Value} {e : Ex} {f1 : Fr} {H1 : Heap} (hf : FRel k f l) (h : c0o P C t (rA P C lo [] f H) = .ok e f1 H1) : ∃ l1, e = .normal ∧ FRel k f1 l1 ∧ Sim P (.region id ops true) l H .normal l1 H1 ∧ LK H H1 := by
 cases hr : rA P C lo [] f H with
 | no => rw [hr] at h; cases h
 | ok tr f2 H2 =>
   rw [hr] at h
   have h : nR (b5i (b5T P C tr H2) t) Rc.no (.ok .normal f2 H2) = .ok e f1 H1 := h
   rw [kN] at h
   split at h
   case isFalse => cases h
   rename_i hall
   injection h with h1 h2 h3
   subst h1 h2 h3
   obtain ⟨T, val, l1, hT0, hTn, hf1, hN⟩ := b5L hC hlo (i := 0) rfl hf (.refl H) hr
   rw [fq, fO] at hTn
   rw [fq] at hN
   have hlk : LK H H2 := by have := hN.lk ops.size (eO _) (by omega); rwa [hTn] at this
   refine ⟨l1, rfl, hf1, ?_, hlk⟩
   have := Sim.draw kE (id := id) htab (T := T) (val := val) ⟨fun j hj => hN.step j (eO _) (by omega)⟩ ?_
   ·rw [hT0, hTn] at this; exact this
   ·intro i m o hm ho hw
    obtain ⟨o', lo', gd, ho', hgd, hlow, hmem⟩ := hl.get hm
    rw [ho] at ho'
    obtain rfl := cS ho'
    rw [b0L, dj] at hall
    have hrd := hall _ hmem
    have hi : i < ops.size := (cZ.1 ho).1
    obtain ⟨g, hg, hag⟩ := hN.new i (eO _) (by omega)
    have hg : tr[ops.size - 1 - i]? = some (g, (T i).2, val i) := by rw [← hg]; congr 1; omega
    have hread : nQ o.op = true := by
     obtain ⟨fl, _, rfl⟩ := qB htab
     exact a9v hm ho
    have fin : ∀ H3, LK H H3 → b9M (val i) (opF P C lo' g H3) = true → ∃ H4, opD P o (T i).1 H3 = some (val i, H4) := by
     intro H3 hk3 hq
     obtain ⟨H4, h4⟩ := b9B hq
     obtain ⟨hs, _⟩ := hlow C H g (T i).1 H3 (val i) H4 hC hk3 hag h4
     refine ⟨H4, hs.opD fun c fv hc hv => ?_⟩
     rw [hc] at hread
     simp [nQ, hv] at hread
    unfold b5T at hrd
    simp only [xU, hg, hgd.runs hag hw] at hrd
    rw [kN, if_pos rfl] at hrd
    by_cases hms : m < ops.size
    ·rw [if_pos hms] at hrd
     obtain ⟨g2, hg2, _⟩ := hN.new m (eO _) (by omega)
     have hg2 : tr[ops.size - 1 - m]? = some (g2, (T m).2, val m) := by rw [← hg2]; congr 1; omega
     simp only [hg2] at hrd
     exact fin _ (hN.lk m (eO _) (by omega)) hrd
    ·rw [if_neg hms] at hrd
     have hle : m = ops.size := by
      obtain ⟨fl, _, rfl⟩ := qB htab
      have := a2d hm
      omega
     subst hle
     have := fin H2 hlk hrd
     rw [hTn]; exact this
def uQ (P : Program) : List ResultVar → List LRes → Prop
 | [], [] => True
 | r :: rs, l :: ls => (match r, l with
   | .tmp t, .t p => p = kO t
   | .cell a t, .c1 p => p = kO a ∧ jN P t = some false
   | .cell a t, .cn n p => p = kO a ∧ jN P t = some true ∧ iD P t = some n
   | _, _ => False) ∧ uQ P rs ls
 | _, _ => False
theorem b7q {α : Type} (l : List ResultVar) (K : List LRes → α) (no : α) : (∃ r, uQ P l r ∧ a0y P l K no = K r) ∨ a0y P l K no = no := by
 induction l generalizing K with
 | nil => exact .inl ⟨[], trivial, rfl⟩
 | cons r l ih =>
   cases r with
   | tmp t =>
     have e : a0y P (.tmp t :: l) K no = lJ (kO t) fun p => a0y P l (fun l => K (.t p :: l)) no := rfl
     rw [e, lI]
     rcases ih (fun l => K (.t (kO t) :: l)) with ⟨q, h1, h2⟩ | h2
     ·exact .inl ⟨.t (kO t) :: q, ⟨rfl, h1⟩, h2⟩
     ·exact .inr h2
   | cell a t =>
     have e : a0y P (.cell a t :: l) K no = match jN P t with
      | some true => a3j (iD P t) no fun n => lJ (kO a) fun p => a0y P l (fun l => K (.cn n p :: l)) no
      | some false => lJ (kO a) fun p => a0y P l (fun l => K (.c1 p :: l)) no
      | none => no := rfl
     rw [e]
     split
     ·rename_i ha
      cases hn : iD P t with
      | none => exact .inr rfl
      | some n =>
        rw [pD, lI]
        rcases ih (fun l => K (.cn n (kO a) :: l)) with ⟨q, h1, h2⟩ | h2
        ·exact .inl ⟨.cn n (kO a) :: q, ⟨⟨rfl, ha, hn⟩, h1⟩, h2⟩
        ·exact .inr h2
     ·rename_i ha
      rw [lI]
      rcases ih (fun l => K (.c1 (kO a) :: l)) with ⟨q, h1, h2⟩ | h2
      ·exact .inl ⟨.c1 (kO a) :: q, ⟨⟨rfl, ha⟩, h1⟩, h2⟩
      ·exact .inr h2
     ·exact .inr rfl
theorem b1y {H H1 : Heap} {f : Fr} {l : List Value} (hf : FAg f l) {r : ResultVar} {q : LRes} {rs : List ResultVar} {qs : List LRes} (h : uQ P (r :: rs) (q :: qs)) {v : Value} (hv : (a4u H f q).Is v H1) : H1 = H ∧ a1l P l H r = some v ∧ uQ P rs qs := by
 obtain ⟨h, hr⟩ := h
 cases r with
 | tmp t => cases q with
   | t p =>
     have h : p = kO t := h
     subst h
     have hv : (oE (nT (kO t) f) fun v => Rs.ok v H).Is v H1 := hv
     rw [mP] at hv
     obtain ⟨rfl, rfl⟩ := Rs.aK hv
     exact ⟨rfl, by rw [hf t]; rfl, hr⟩
   | c1 p => exact h.elim
   | cn n p => exact h.elim
 | cell a t => cases q with
   | t p => exact h.elim
   | c1 p =>
     obtain ⟨rfl, ha⟩ := h
     obtain ⟨e, h1⟩ := b0M (P := P) (X := .t (kO a)) (w := get l a) ha (hf a) hv
     exact ⟨e, h1, hr⟩
   | cn n p =>
     obtain ⟨rfl, ha, hn⟩ := h
     obtain ⟨e, h1⟩ := b1p (P := P) (X := .t (kO a)) (w := get l a) ha hn (hf a) hv
     exact ⟨e, h1, hr⟩
theorem b7y {H : Heap} {f : Fr} {q : LRes} {v : Value} {H1 : Heap} : ¬ (a4u H f q = .th v H1) := by
 intro h
 cases q with
 | t p =>
   have h : (oE (nT p f) fun v => Rs.ok v H) = .th v H1 := h
   rw [mP] at h; cases h
 | c1 p =>
   have h : b3v (.t p) f H = .th v H1 := h
   unfold b3v at h
   split at h
   ·unfold b9h at h
    split at h
    ·rw [kN, kN, kN] at h
     split at h
     ·split at h
      ·split at h
       ·rename_i cs _ _ _ _ _ _ _ _
        cases hn : a0V cs _ with
        | none => rw [hn] at h; cases h
        | some w => rw [hn] at h; have h : (oE w fun v => Rs.ok v H) = .th v H1 := h; rw [mP] at h; cases h
       ·cases h
      ·cases h
     ·cases h
    ·cases h
   ·unfold c0G at h
    split at h
    ·rw [kN] at h
     split at h
     ·rename_i cs _ _ _ _
      cases hn : a0V cs _ with
      | none => rw [hn] at h; cases h
      | some w => rw [hn] at h; have h : (oE w fun v => Rs.ok v H) = .th v H1 := h; rw [mP] at h; cases h
     ·cases h
    ·cases h
   ·cases h
 | cn n p =>
   have hh : b3p n (.t p) f H = .th v H1 := h
   unfold b3p at hh
   split at hh
   ·unfold b8M at hh
    split at hh
    ·rw [kN, kN, kN] at hh
     split at hh
     ·split at hh
      ·split at hh
       ·have key : ∀ {cs : List Value} {n : Nat} {pre : List Value}, ¬ (a1V cs n fun l => Rs.ok (.agg ⟨pre ++ l⟩) H) = .th v H1 := by
         intro cs
         induction cs with
         | nil => intro n pre h; cases n <;> cases h
         | cons c cs ih =>
           intro n pre h
           cases n with
           | zero => cases h
           | succ n =>
             have h : (a1V cs n fun l => Rs.ok (.agg ⟨pre ++ (c :: l)⟩) H) = .th v H1 := h
             have e : ∀ l : List Value, pre ++ (c :: l) = (pre ++ [c]) ++ l := by intro l; simp
             have h2 : (a1V cs n fun l => Rs.ok (.agg ⟨(pre ++ [c]) ++ l⟩) H) = .th v H1 := by
              rw [← h]; congr 1; funext l; rw [e l]
             exact ih h2
        exact key (pre := []) hh
       ·cases hh
      ·cases hh
     ·cases hh
    ·cases hh
   ·cases hh
theorem a7v {H H1 : Heap} {f : Fr} {l : List Value} (hf : FAg f l) {v : Value} : ∀ {rs : List ResultVar} {qs : List LRes} {K : List Value → Rs}, uQ P rs qs → (b5V H f qs K).Is v H1 → ∃ vs, nG P l H rs = some vs ∧ (K vs).Is v H1
 | [], [], K, _, h => ⟨[], rfl, h⟩
 | [], _ :: _, _, h, _ => h.elim
 | _ :: _, [], _, h, _ => h.elim
 | r :: rs, q :: qs, K, hl, h => by
   have h : (Rs.rec (motive := fun _ => Rs) .no (fun v _ => b5V H f qs fun l => K (v :: l)) (fun _ _ => .no) (a4u H f q)).Is v H1 := h
   cases hq : a4u H f q with
   | no => rw [hq] at h; exact absurd h Rs.ar
   | th w H2 => exact absurd hq b7y
   | ok w H2 =>
     rw [hq] at h
     obtain ⟨e, h1, h2⟩ := b1y hf hl (.inl hq)
     obtain ⟨vs, h3, h4⟩ := a7v hf h2 h
     exact ⟨w :: vs, by simp [nG, h1, h3], h4⟩
theorem b7h {fn : Func} {H H1 : Heap} {f : Fr} {l : List Value} (hf : FAg f l) {qs : List LRes} (hl : uQ P fn.results.toList qs) {v : Value} (h : (a6y qs f H).Is v H1) : H1 = H ∧ iC P fn l H = some v := by
 unfold a6y at h
 split at h
 ·rename_i q
  cases hr : fn.results.toList with
  | nil => rw [hr] at hl; exact hl.elim
  | cons r rs =>
    rw [hr] at hl
    obtain ⟨e, h1, h2⟩ := b1y hf hl h
    cases rs with
    | cons _ _ => exact h2.elim
    | nil => exact ⟨e, by simp [iC, hr, nG, h1]⟩
 ·rename_i hne
  obtain ⟨vs, h1, h2⟩ := a7v hf hl h
  obtain ⟨h3, h4⟩ := lA h2
  obtain ⟨rfl, rfl⟩ := Rs.aK h4
  refine ⟨rfl, ?_⟩
  have hlen : ∀ {rs : List ResultVar} {qs : List LRes}, uQ P rs qs → rs.length = qs.length := by
   intro rs
   induction rs with
   | nil => intro qs h; cases qs with | nil => rfl | cons => exact h.elim
   | cons r rs ih => intro qs h; cases qs with | nil => exact h.elim | cons q qs => simp [ih h.2]
  have hvl : ∀ {rs : List ResultVar} {vs : List Value}, nG P l H1 rs = some vs → vs.length = rs.length := by
   intro rs
   induction rs with
   | nil => intro vs h; injection h with h; subst h; rfl
   | cons r rs ih =>
     intro vs h
     simp only [nG, cV, dc] at h
     obtain ⟨w, _, ws, h1, h2⟩ := h
     subst h2
     simp [ih h1]
  have hn1 : vs.length ≠ 1 := by
   rw [hvl h1, hlen hl]
   intro h1
   match qs, h1 with
   | [q], _ => exact hne q rfl
  unfold iC
  rw [h1, cU]
  rw [b0L] at h3
  have h3 : vs.all jC = true := by rw [← h3]; congr 1
  split
  ·exact absurd rfl hn1
  ·rw [if_pos h3]
structure FuncOk (P : Program) (f : FuncId) (g : LFunc) : Prop where
 ex : ∃ fn c, P.funcs[f]? = some fn ∧ fn.body = some c ∧ (fn.name == "runtime.NumGoroutine") = false ∧ g.ps = (List.range fn.ntmps).map kO ∧ Low P fn.ntmps c g.body ∧ uQ P fn.results.toList g.res
def TOk (P : Program) (T : LT) : Prop := ∀ f g, a1A (kO f) T = some g → FuncOk P f g
def EOk (P : Program) (E : List LEnv) (H : Heap) : Prop := ∀ en ∈ E, en.L < H.length ∧ ∀ r, iR H en.L = some (.loop r) →
 ∃ k, en.ps = (List.range k).map kO ∧ r.tmps.size = k ∧ en.pp = r.params.toList.map kO ∧ (∀ t ∈ r.params.toList, t < k) ∧ Low P k r.assign en.a ∧ Low P k r.body en.b
theorem EOk.ab {E : List LEnv} {H H' : Heap} (h : EOk P E H) (hk : LK H H') : EOk P E H' := fun en hen => by
 obtain ⟨h1, h2⟩ := h en hen
 refine ⟨dF h1 hk.1, fun r' hr' => ?_⟩
 obtain ⟨r, hr, ea, eb, ep, et⟩ := hk.2 en.L r' h1 hr'
 obtain ⟨k, a, b, c, d, e, f⟩ := h2 r hr
 exact ⟨k, a, by rw [et]; exact b, by rw [ep]; exact c, by rw [ep]; exact d, by rw [ea]; exact e, by rw [eb]; exact f⟩
def a4n (P : Program) (ih : pZ) : Prop := ∀ (E : List LEnv) (C : LCode) (k : Nat) (c : Code) (f : Fr) (l : List Value) (H : Heap) (e : Ex) (f1 : Fr) (H1 : Heap), Low P k c C → FRel k f l → EOk P E H → ih E C f H = .ok e f1 H1 →
 ∃ l1, FRel k f1 l1 ∧ Sim P c l H e l1 H1 ∧ LK H H1 ∧ ∀ b, c = .loop b → ∃ n, Rounds P b n l H e l1 H1
theorem a0c {α : Type} {no : α} : ∀ {l : List Value} {i m : Nat} {f : Fr} {K : Fr → α}, (pE no l ((List.range' i m).map kO) f K = no) ∨ (l.length ≤ m ∧ ∃ f', pE no l ((List.range' i m).map kO) f K = K f' ∧ ∀ t, nT (kO t) f' = if i ≤ t ∧ t < i + l.length then get l (t - i) else nT (kO t) f)
 | [], i, m, f, K => .inr ⟨eO _, f, rfl, fun t => by rw [if_neg (by simp only [eG]; omega)]⟩
 | v :: l, i, 0, f, K => .inl rfl
 | v :: l, i, m + 1, f, K => by
   have e : pE no (v :: l) ((List.range' i (m + 1)).map kO) f K = pT v (kO i) f fun f => pE no l ((List.range' (i + 1) m).map kO) f K := by
    rw [gy]; rfl
   rw [e, sL]
   rcases a0c (l := l) (i := i + 1) (m := m) (f := b5b f i v) (K := K) with h | ⟨h1, f', h2, h3⟩
   ·exact .inl h
   ·refine .inr ⟨by simp; omega, f', h2, fun t => ?_⟩
    rw [h3 t, a3Q]
    by_cases ht : t = i
    ·subst ht
     rw [if_neg (by omega), if_pos rfl, if_pos (by simp), Nat.sub_self]; rfl
    ·rw [if_neg ht]
     by_cases h4 : i + 1 ≤ t ∧ t < i + 1 + l.length
     ·rw [if_pos h4, if_pos (by simp; omega)]
      rw [show t - i = (t - (i + 1)) + 1 by omega]; rfl
     ·rw [if_neg h4, if_neg (by simp; omega)]
theorem wB {α : Type} {no : α} {k : Nat} : ∀ {args : List Value} {ps : List Tmp} {f : Fr} {l : List Value} {K : Fr → α}, FRel k f l → (∀ t ∈ ps, t < k) → args.length = ps.length →
 ∃ f', pE no args (ps.map kO) f K = K f' ∧ FRel k f' ((ps.zip args).foldl (fun t (p, v) => t.set p v) l)
 | [], [], f, l, K, hf, _, _ => ⟨f, rfl, hf⟩
 | v :: args, p :: ps, f, l, K, hf, hp, he => by
   have e : pE no (v :: args) ((p :: ps).map kO) f K = pT v (kO p) f fun f => pE no args (ps.map kO) f K := rfl
   rw [e, sL]
   exact wB (hf.set (hp p (by simp)) v) (fun t ht => hp t (by simp [ht])) (by simpa using he)
 | [], _ :: _, _, _, _, _, _, he => by simp at he
 | _ :: _, [], _, _, _, _, _, he => by simp at he
theorem zY (l : List Value) (n t : Nat) : get (l ++ List.replicate n undef) t = get l t := by
 rw [nY, nY]
 simp only [cX]
 by_cases h : t < l.length
 ·rw [eh h]
 ·rw [ew (by omega), dW (l := l) (by omega), gM]
  split <;> rfl
theorem zK {T : LT} (hT : TOk P T) {ih : pZ} (hih : a4n P ih) {E : List LEnv} {p : Pth} {f : FuncId} {args : List Value} {H H1 : Heap} {v : Value} (hE : EOk P E H) (hp : p = kO f) (h : (mR T ih E p args H).Is v H1) :
 FnS P f args H (fun v' H' => v' = v ∧ H' = H1) ∧ LK H H1 := by
 unfold mR at h
 split at h
 case h_2 => exact absurd h Rs.ar
 rename_i g hg
 subst hp
 obtain ⟨fn, c, hfn, hb, hn, hps, hlow, hres⟩ := (hT f g hg).ex
 rw [hps] at h
 rw [fB] at h
 rcases a0c (no := Rs.no) (l := args) (i := 0) (m := fn.ntmps) (f := .e) (K := fun f => c0R g.res (ih E g.body f H)) with h1 | ⟨h1, f0, h2, h3⟩
 ·rw [h1] at h; exact absurd h Rs.ar
 ·rw [h2] at h
  have hf0 : FRel fn.ntmps f0 (args ++ List.replicate (fn.ntmps - args.length) undef) := by
   refine ⟨by simp; omega, fun t => ?_⟩
   rw [h3 t, zY]
   by_cases ht : t < args.length
   ·rw [if_pos (by omega)]; rfl
   ·rw [if_neg (by omega), uP, nY, cX, dW (by omega)]; try rfl
  cases hr : ih E g.body f0 H with
  | no => rw [hr] at h; exact absurd h Rs.ar
  | ok e f1 H2 =>
    rw [hr] at h
    obtain ⟨l1, hf1, hs, hk, _⟩ := hih E g.body fn.ntmps c f0 _ H e f1 H2 hlow hf0 hE hr
    have key : (e = .normal ∨ e = .ret) → (a6y g.res f1 H2).Is v H1 → FnS P f args H (fun v' H' => v' = v ∧ H' = H1) ∧ LK H H1 := by
     intro he hv
     obtain ⟨rfl, hv⟩ := b7h hf1.2 hres hv
     exact ⟨⟨fn, c, e, l1, H1, v, hfn, hb, hn, hs, he, hv, rfl, rfl⟩, hk⟩
    cases e with
    | normal => exact key (.inl rfl) h
    | ret => exact key (.inr rfl) h
    | exit id => exact absurd h Rs.ar
theorem b5c {T : LT} (hT : TOk P T) {ih : pZ} (hih : a4n P ih) {E : List LEnv} {p : Pth} {f : FuncId} {args : List Value} {H H1 : Heap} {v : Value} (hE : EOk P E H) (hp : p = kO f) (h : (b4m P T ih E p f args H).Is v H1) :
 (FnS P f args H (fun v' H' => v' = v ∧ H' = H1) ∨ qA P f args H = some (v, H1)) ∧ LK H H1 := by
 unfold b4m at h
 cases hg : a1A p T with
 | some g =>
   rw [hg] at h
   obtain ⟨a, b⟩ := zK (H1 := H1) (v := v) hT hih hE hp (by unfold mR; rw [hg]; exact h)
   exact ⟨.inl a, b⟩
 | none =>
   rw [hg] at h
   have h : (c1p P f args H).Is v H1 := h
   unfold c1p at h
   split at h
   ·rename_i v2 H2 hx
    obtain ⟨rfl, rfl⟩ := Rs.aN h
    exact ⟨.inr hx, a4Y hx⟩
   ·exact absurd h Rs.ar
theorem b0v {E : List LEnv} {L : Nat} {en : LEnv} (h : b4r E L = some en) : en ∈ E ∧ en.L = L := by
 induction E with
 | nil => cases h
 | cons e E ih =>
   have h : nR (Nat.beq e.L L) (b4r E L) (some e) = some en := h
   rw [kN] at h
   split at h
   ·rename_i hh
    injection h with h
    subst h
    exact ⟨by simp, dQ hh⟩
   ·obtain ⟨h1, h2⟩ := ih h
    exact ⟨dE _ h1, h2⟩
theorem a7S (e : Ex) : c0n e = rO e := by cases e <;> rfl
theorem b2n {ih : pZ} (hih : a4n P ih) {E : List LEnv} {L : Nat} {args : List Value} {H H1 : Heap} {v : Value} (hE : EOk P E H) (h : (b0f ih E L args H).Is v H1) : xH P L args H v H1 ∧ LK H H1 := by
 unfold b0f at h
 split at h
 case h_2 => exact absurd h Rs.ar
 rename_i en hen
 obtain ⟨hmem, rfl⟩ := b0v hen
 split at h
 case h_2 => exact absurd h Rs.ar
 rename_i p fn tmps ps a b d hg
 obtain ⟨hlen, h⟩ := lA h
 rw [yI] at hlen
 have hlen : ps.size = args.length := by simpa only [decide_eq_true_eq] using hlen
 obtain ⟨k, hps, hsz, hpp, hpk, hla, hlb⟩ := (hE en hmem).2 _ hg
 have hsz : tmps.length = k := by simpa using hsz
 rw [hps, fB] at h
 rcases a0c (no := Rs.no) (l := tmps) (i := 0) (m := k) (f := .e) (K := fun f => pE .no args en.pp f fun f => sO ih E en (ih E en.a f H)) with h1 | ⟨h1, f0, h2, h3⟩
 ·rw [h1] at h; exact absurd h Rs.ar
 rw [h2] at h
 have hf0 : FRel k f0 tmps := by
  refine ⟨hsz, fun t => ?_⟩
  rw [h3 t]
  by_cases ht : t < tmps.length
  ·rw [if_pos (by omega)]; rfl
  ·rw [if_neg (by omega), uP, nY, cX, dW (by omega)]; try rfl
 rw [hpp] at h
 obtain ⟨f2, h4, hf2⟩ := wB (no := Rs.no) (args := args) (ps := ps.toList) (K := fun f => sO ih E en (ih E en.a f H)) hf0 hpk (by simpa using hlen.symm)
 have h : (pE Rs.no args (List.map kO ps.toList) f0 fun f => sO ih E en (ih E en.a f H)).Is v H1 := h
 rw [h4] at h
 cases hr1 : ih E en.a f2 H with
 | no => rw [hr1] at h; exact absurd h Rs.ar
 | ok e f3 H2 =>
   rw [hr1] at h
   obtain ⟨l3, hf3, hs1, hk1, _⟩ := hih E en.a k a f2 _ H e f3 H2 hla hf2 hE hr1
   cases e with
   | ret => exact absurd h Rs.ar
   | exit id => exact absurd h Rs.ar
   | normal =>
     have h : (zC ih E en f3 H2).Is v H1 := h
     unfold zC at h
     split at h
     case h_2 => exact absurd h Rs.ar
     rename_i p2 fn2 tmps2 ps2 a2 b2 d2 hg2
     rw [lS] at h
     obtain ⟨r0, hr0, ea, eb, ep, et⟩ := hk1.2 en.L _ (hE en hmem).1 hg2
     rw [hg] at hr0
     injection hr0 with hr0
     injection hr0 with hr0
     subst hr0
     have ea' : a2 = a := ea
     have eb' : b2 = b := eb
     have ep' : ps2 = ps := ep
     have et' : tmps2 = ⟨tmps⟩ := et
     clear ea eb ep et
     subst ea' eb' ep' et'
     have hk2 : LK H2 (hset H2 en.L (.loop ⟨.busy, p2, fn2, ⟨tmps⟩, ps2, a2, b2, d2⟩)) := .loop hg2 ⟨rfl, rfl, rfl, rfl⟩
     cases hr2 : ih E en.b f3 (hset H2 en.L (.loop ⟨.busy, p2, fn2, ⟨tmps⟩, ps2, a2, b2, d2⟩)) with
     | no => rw [hr2] at h; exact absurd h Rs.ar
     | ok e f4 H3 =>
       rw [hr2] at h
       obtain ⟨l4, _, hs2, hk3, _⟩ := hih E en.b k b2 f3 _ _ e f4 H3 hlb hf3 (hE.ab (hk1.trans hk2)) hr2
       have h : (a2D en.L e H3).Is v H1 := h
       unfold a2D at h
       split at h
       case h_2 => exact absurd h Rs.ar
       rename_i st3 p3 fn3 tmps3 ps3 a3 b3 d3 hg3
       have fin : ∀ r', H1 = hset H3 en.L (.loop r') → (r' = { (⟨st3, p3, fn3, tmps3, ps3, a3, b3, d3⟩ : Loop) with state := if (rO e).isNone then .ready else .done, pending := rO e }) → v = .bool (rO e).isNone → xH P en.L args H v H1 ∧ LK H H1 := by
        intro r' hH hr' hv
        refine ⟨?_, hk1.trans (hk2.trans (hk3.trans (by rw [hH]; exact .loop hg3 (by rw [hr']; exact ⟨rfl, rfl, rfl, rfl⟩))))⟩
        have hW := a0v (P := P) (args := args) (K := fun v' H' => v' = v ∧ H' = H1) hg hlen rfl
         ⟨.normal, l3, H2, hs1, rfl, _, hg2, rfl, e, l4, H3, hs2, _, hg3, hv.symm, by rw [hH, hr']⟩
        obtain ⟨v', H', h1, rfl, rfl⟩ := hW
        exact h1
       split at h
       ·rename_i hj
        obtain ⟨rfl, rfl⟩ := Rs.aN h
        rw [a7S] at hj
        exact fin _ rfl (by rw [hj]; rfl) (by rw [hj]; rfl)
       ·rename_i c hj
        obtain ⟨rfl, rfl⟩ := Rs.aN h
        rw [a7S] at hj
        exact fin _ rfl (by rw [hj]; rfl) (by rw [hj]; rfl)
theorem a3x {T : LT} (hT : TOk P T) {ih : pZ} (hih : a4n P ih) {E : List LEnv} {H0 : Heap} (hE : EOk P E H0) : CallsOk P (a0l P T ih E) H0 where
 fn p f args H v H1 hk h hp := b5c hT hih (hE.ab hk) hp h
 rd L args H v H1 hk h := b2n hih (hE.ab hk) h
theorem c1B {α : Type} {f : Fr} {l : List Value} (hf : FAg f l) (i m : Nat) (K : List Value → α) : frL f ((List.range' i m).map kO) K = K ((List.range' i m).map (get l)) := by
 induction m generalizing i K with
 | zero => rfl
 | succ m ih =>
   have e : frL f ((List.range' i (m + 1)).map kO) K = oE (nT (kO i) f) fun v => frL f ((List.range' (i + 1) m).map kO) fun l => K (v :: l) := by
    rw [gy]; rfl
   rw [e, mP, ih, hf i, gy]; rfl
theorem b7Q {α : Type} {k : Nat} {f : Fr} {l : List Value} (hf : FRel k f l) (K : List Value → α) : frL f ((List.range k).map kO) K = K l := by
 rw [fB, c1B hf.2, ← fB]
 congr 1
 apply gr
 intro i
 rw [eF]
 by_cases hi : i < k
 ·rw [gD hi, dI, nY, cX]
  have : i < l.length := by rw [hf.1]; exact hi
  simp [dh this]
 ·rw [dW (by simp; omega), dW (by rw [hf.1]; omega)]; rfl
theorem b2T {T : LT} (hT : TOk P T) {ih : pZ} (hih : a4n P ih) {E : List LEnv} {k : Nat} {g : Operand} {ps : Array Tmp} {assign body : Code} {A B : LCode} (hg : iP g = true) (hps : ∀ t ∈ ps.toList, t < k) (ha : Low P k assign A) (hb : Low P k body B)
 {x1 x2 : Fr → Heap → Rc} {f : Fr} {l : List Value} {H : Heap} {e : Ex} {f1 : Fr} {H1 : Heap} (hf : FRel k f l) (hE : EOk P E H) (h : a9o T ih E (iV g) ((List.range k).map kO) (ps.toList.map kO) ps assign body A B x1 x2 f H = .ok e f1 H1) :
 f1 = f ∧ Sim P (.rangeFunc g ps assign body) l H e l H1 ∧ LK H H1 := by
 unfold a9o at h
 rw [jR hf.2] at h
 split at h
 case h_2 => cases h
 rename_i j xa xb hgv
 rw [jX, b7Q hf, lS, jX] at h
 unfold b1g at h
 rw [lI] at h
 generalize hH0 : H.cons (.loop ⟨.ready, none, 0, ⟨l⟩, ps, assign, body, 0⟩) = H0 at h
 have hl0 : (⟨.ready, none, 0, ⟨l⟩, ps, assign, body, 0⟩ : Loop) = b1u l ps assign body := rfl
 have hE0 : EOk P (⟨H.length, (List.range k).map kO, ps.toList.map kO, A, B⟩ :: E) H0 := by
  intro en hen
  rcases dS.1 hen with rfl | hen
  ·refine ⟨by rw [← hH0, length_cons]; exact Nat.lt_succ_self _, fun r hr => ?_⟩
   rw [← hH0, iN] at hr
   injection hr with hr
   injection hr with hr
   subst hr
   exact ⟨k, rfl, by simpa using hf.1, rfl, hps, ha, hb⟩
  ·exact (hE.ab (by rw [← hH0]; exact .cons _ _)) en hen
 have key : ∀ v H2, (mR T ih (⟨H.length, (List.range k).map kO, ps.toList.map kO, A, B⟩ :: E) (kO j) (a5E xa (.func (.yield H.length) #[] #[] :: xb)) H0).Is v H2 → uX H.length f H2 = .ok e f1 H1 → f1 = f ∧ Sim P (.rangeFunc g ps assign body) l H e l H1 ∧ LK H H1 := by
  intro v H2 hc hr
  obtain ⟨hfn, hk⟩ := zK hT hih hE0 rfl hc
  have hargs : a5E xa (.func (.yield H.length) #[] #[] :: xb) = xa ++ [.func (.yield H.length) #[] #[]] ++ xb := by rw [yP]; simp
  rw [hargs, ← hH0, hl0] at hfn
  have fin : ∀ (r : Loop) (H3 : Heap), iR H2 H.length = some (.loop r) → r.state ≠ .busy → H3 = hset H2 H.length (.loop { r with state := .exhausted }) → (r.pending = none → e = .normal) → (∀ c, r.pending = some c → (c = .ret ∧ e = .ret) ∨ ∃ id, c = .exit id ∧ e = .exit id) → f1 = f → H1 = H3 →
   f1 = f ∧ Sim P (.rangeFunc g ps assign body) l H e l H1 ∧ LK H H1 := by
   intro r H3 hrl hnb hH3 hp0 hp1 he1 he2
   have hw : Wp P (.rangeFunc g ps assign body) l H (fun e' l' H' => e' = e ∧ l' = l ∧ H' = H3) := by
    refine Wp.range (first := xa) (captured := xb) hg (by rw [hgv]) (hfn.mono ?_)
    rintro v' H' ⟨rfl, rfl⟩
    refine ⟨r, hrl, hnb, fun hp => ⟨(hp0 hp).symm, rfl, hH3.symm⟩, fun c hc => ?_⟩
    rcases hp1 c hc with ⟨rfl, he⟩ | ⟨id, rfl, he⟩
    ·exact Wp.ret ⟨he.symm, rfl, hH3.symm⟩
    ·exact Wp.exit ⟨he.symm, rfl, hH3.symm⟩
   obtain ⟨e', l', H', hs, rfl, rfl, rfl⟩ := hw
   refine ⟨he1, by rw [he2]; exact hs, ?_⟩
   rw [he2, hH3]
   have h1 : LK H H0 := by rw [← hH0]; exact .cons _ _
   exact h1.trans (hk.trans (.loop hrl ⟨rfl, rfl, rfl, rfl⟩))
  unfold uX at hr
  split at hr
  ·rename_i hg2
   rw [lS] at hr
   injection hr with h1 h2 h3
   exact fin _ _ hg2 (by simp) rfl (fun _ => h1.symm) (fun c hc => by cases hc) h2.symm h3.symm
  ·rename_i hg2
   rw [lS] at hr
   injection hr with h1 h2 h3
   exact fin _ _ hg2 (by simp) rfl (fun _ => h1.symm) (fun c hc => by cases hc) h2.symm h3.symm
  ·rename_i hg2
   rw [lS] at hr
   injection hr with h1 h2 h3
   exact fin _ _ hg2 (by simp) rfl (fun hc => by cases hc) (fun c hc => by injection hc with hc; subst hc; exact .inl ⟨rfl, h1.symm⟩) h2.symm h3.symm
  ·rename_i hg2
   rw [lS] at hr
   injection hr with h1 h2 h3
   exact fin _ _ hg2 (by simp) rfl (fun hc => by cases hc) (fun c hc => by injection hc with hc; subst hc; exact .inr ⟨_, rfl, h1.symm⟩) h2.symm h3.symm
  ·cases hr
 cases hc : mR T ih (⟨H.length, (List.range k).map kO, ps.toList.map kO, A, B⟩ :: E) (kO j) (a5E xa (.func (.yield H.length) #[] #[] :: xb)) H0 with
 | no => rw [hc] at h; cases h
 | ok v H2 => rw [hc] at h; exact key v H2 (.inl hc) h
 | th v H2 =>
   rw [hc] at h
   have h : nJ H2 (fun H => uX _ f H) = .ok e f1 H1 := h
   rw [lS] at h
   exact key v H2 (.inr hc) h
theorem c1X (kE : P.follows .mixedOrders = true) {T : LT} (hT : TOk P T) : ∀ n, a4n P (exF P T n) := by
 intro n
 induction n with
 | zero => intro E C k c f l H e f1 H1 _ _ _ h; cases h
 | succ n ih =>
   intro E C k c f l H e f1 H1 hlow hf hE h
   have h : b1z P T (exF P T n) E C f H = .ok e f1 H1 := h
   have noloop : ∀ {c : Code}, (∀ b, c ≠ .loop b) → ∀ {l1 : List Value}, ∀ b, c = .loop b → ∃ n, Rounds P b n l H e l1 H1 := fun hne _ b hb => absurd hb (hne b)
   cases hlow with
   | bad => cases h
   | skip =>
     injection h with h1 h2 h3; subst h1 h2 h3
     exact ⟨l, hf, .skip l H, .refl H, noloop (by intro b h; cases h)⟩
   | label t =>
     injection h with h1 h2 h3; subst h1 h2 h3
     exact ⟨l, hf, .label t l H, .refl H, noloop (by intro b h; cases h)⟩
   | exit id =>
     injection h with h1 h2 h3; subst h1 h2 h3
     exact ⟨l, hf, .exit id l H, .refl H, noloop (by intro b h; cases h)⟩
   | ret =>
     injection h with h1 h2 h3; subst h1 h2 h3
     exact ⟨l, hf, .ret l H, .refl H, noloop (by intro b h; cases h)⟩
   | @reg id ops d lo hlo hd =>
     have h : c2Y (xP P (a0l P T (exF P T n) E) lo f H) = .ok e f1 H1 := h
     cases hr : xP P (a0l P T (exF P T n) E) lo f H with
     | no => rw [hr] at h; cases h
     | ok f2 H2 =>
       rw [hr] at h
       injection h with h1 h2 h3; subst h1 h2 h3
       obtain ⟨l1, hf1, hops, hk⟩ := b8F (a3x hT ih hE) hlo (i := 0) rfl hf (.refl H) hr
       have hops : OpsR P ops (List.range ops.size) l H l1 H2 := by rw [fB]; simpa using hops
       refine ⟨l1, hf1, ?_, hk, noloop (by intro b h; cases h)⟩
       cases d with
       | false => exact .region hops
       | true => exact .bW kE (hd rfl) hops
   | drw hlo ht hl =>
     obtain ⟨l1, rfl, hf1, hs, hk⟩ := b7N kE (a3x hT ih hE) hlo ht hl hf h
     exact ⟨l1, hf1, hs, hk, noloop (by intro b h; cases h)⟩
   | @seq a b A B ha hb =>
     have h : b9S (exF P T n) E B (exF P T n E A f H) = .ok e f1 H1 := h
     cases hr : exF P T n E A f H with
     | no => rw [hr] at h; cases h
     | ok e2 f2 H2 =>
       rw [hr] at h
       obtain ⟨l2, hf2, hs, hk, _⟩ := ih E A k a f l H e2 f2 H2 ha hf hE hr
       cases e2 with
       | normal =>
         obtain ⟨l1, hf1, hs1, hk1, _⟩ := ih E B k b f2 l2 H2 e f1 H1 hb hf2 (hE.ab hk) h
         exact ⟨l1, hf1, .seq hs hs1, hk.trans hk1, noloop (by intro b h; cases h)⟩
       | ret =>
         injection h with h1 h2 h3; subst h1 h2 h3
         exact ⟨l2, hf2, .seq' hs (by intro h; cases h), hk, noloop (by intro b h; cases h)⟩
       | exit id =>
         injection h with h1 h2 h3; subst h1 h2 h3
         exact ⟨l2, hf2, .seq' hs (by intro h; cases h), hk, noloop (by intro b h; cases h)⟩
   | @cond c x y X Y hc hx hy =>
     have h : b6c (exF P T n) E (iV c) X Y (b1z P T (exF P T n) E X) (b1z P T (exF P T n) E Y) f H = .ok e f1 H1 := h
     unfold b6c at h
     rw [jR hf.2] at h
     split at h
     ·rename_i t ht
      cases t with
      | true =>
        obtain ⟨l1, hf1, hs, hk, _⟩ := ih E X k x f l H e f1 H1 hx hf hE h
        exact ⟨l1, hf1, .cond ht hc hs, hk, noloop (by intro b h; cases h)⟩
      | false =>
        obtain ⟨l1, hf1, hs, hk, _⟩ := ih E Y k y f l H e f1 H1 hy hf hE h
        exact ⟨l1, hf1, .cond ht hc hs, hk, noloop (by intro b h; cases h)⟩
     ·cases h
   | @block id b B hb =>
     have h : c4j id (exF P T n E B f H) = .ok e f1 H1 := h
     cases hr : exF P T n E B f H with
     | no => rw [hr] at h; cases h
     | ok e2 f2 H2 =>
       rw [hr] at h
       obtain ⟨l2, hf2, hs, hk, _⟩ := ih E B k b f l H e2 f2 H2 hb hf hE hr
       have hs' : Sim P (.block id b) l H (e2.out id) l2 H2 := .block hs
       cases e2 with
       | normal => injection h with h1 h2 h3; subst h1 h2 h3; exact ⟨l2, hf2, hs', hk, noloop (by intro b h; cases h)⟩
       | ret => injection h with h1 h2 h3; subst h1 h2 h3; exact ⟨l2, hf2, hs', hk, noloop (by intro b h; cases h)⟩
       | exit i =>
         have h : Rc.ok (Bool.rec (motive := fun _ => Ex) (.exit i) .normal (Nat.beq i id)) f2 H2 = .ok e f1 H1 := h
         injection h with h1 h2 h3; subst h2 h3
         have : (Ex.exit i).out id = e := by
          rw [← h1]
          by_cases hi : i = id
          ·subst hi; simp [Ex.out]
          ·have : Nat.beq i id = false := fN.2 fun e => hi (dQ e)
           simp [Ex.out, hi, this]
         rw [this] at hs'
         exact ⟨l2, hf2, hs', hk, noloop (by intro b h; cases h)⟩
   | @loop b B hb =>
     have h : b9S (exF P T n) E (.loop B) (exF P T n E B f H) = .ok e f1 H1 := h
     cases hr : exF P T n E B f H with
     | no => rw [hr] at h; cases h
     | ok e2 f2 H2 =>
       rw [hr] at h
       obtain ⟨l2, hf2, hs, hk, _⟩ := ih E B k b f l H e2 f2 H2 hb hf hE hr
       have last : e2 ≠ .normal → e2 = e → f2 = f1 → H2 = H1 → ∃ l1, FRel k f1 l1 ∧ Sim P (.loop b) l H e l1 H1 ∧ LK H H1 ∧ ∀ b', Code.loop b = .loop b' → ∃ n, Rounds P b' n l H e l1 H1 := by
        intro hne h1 h2 h3
        subst h1 h2 h3
        have hr : Rounds P b 1 l H e2 l2 H2 := .last hs hne
        exact ⟨l2, hf2, .loop hr, hk, fun b' hb' => by injection hb' with hb'; subst hb'; exact ⟨1, hr⟩⟩
       cases e2 with
       | normal =>
         obtain ⟨l1, hf1, hs1, hk1, hro⟩ := ih E (.loop B) k (.loop b) f2 l2 H2 e f1 H1 (.loop hb) hf2 (hE.ab hk) h
         obtain ⟨m, hm⟩ := hro b rfl
         have hr : Rounds P b (m + 1) l H e l1 H1 := .more hs hm
         exact ⟨l1, hf1, .loop hr, hk.trans hk1, fun b' hb' => by injection hb' with hb'; subst hb'; exact ⟨_, hr⟩⟩
       | ret => injection h with h1 h2 h3; exact last (by intro h; cases h) h1 h2 h3
       | exit id => injection h with h1 h2 h3; exact last (by intro h; cases h) h1 h2 h3
   | range hg hps ha hb =>
     obtain ⟨rfl, hs, hk⟩ := b2T (x1 := fun _ _ => .no) (x2 := fun _ _ => .no) hT ih hg hps ha hb hf hE h
     exact ⟨l, hf, hs, hk, noloop (by intro b h; cases h)⟩
theorem yA {α : Type} (v : LFunc) (p : Pth) (f : LT) (K : LT → α) : sB v p f K = K (sB v p f fun f => f) := by
 induction p generalizing f α with
 | z => cases f <;> rfl
 | l p ih =>
   cases f with
   | e =>
     show sB v p .e (fun l => K (.n none l .e)) = K (sB v p .e fun l => .n none l .e)
     rw [ih, ih (K := fun l => LT.n none l .e)]
   | n w l r =>
     show sB v p l (fun l => K (.n w l r)) = K (sB v p l fun l => .n w l r)
     rw [ih, ih (K := fun l => LT.n w l r)]
 | r p ih =>
   cases f with
   | e =>
     show sB v p .e (fun l => K (.n none .e l)) = K (sB v p .e fun l => .n none .e l)
     rw [ih, ih (K := fun l => LT.n none .e l)]
   | n w l r =>
     show sB v p r (fun r => K (.n w l r)) = K (sB v p r fun r => .n w l r)
     rw [ih, ih (K := fun r => LT.n w l r)]
theorem wE (p : Pth) : a1A p .e = none := by cases p <;> rfl
theorem b2X (v : LFunc) (p q : Pth) (f : LT) {g : LFunc} (h : a1A q (sB v p f fun f => f) = some g) : (q = p ∧ g = v) ∨ a1A q f = some g := by
 induction p generalizing f q with
 | z =>
   cases q with
   | z => left; refine ⟨rfl, ?_⟩; cases f <;> (injection h with h; exact h.symm)
   | l q => right; cases f with
     | e => have h : a1A q .e = some g := h
            rw [wE] at h; cases h
     | n => exact h
   | r q => right; cases f with
     | e => have h : a1A q .e = some g := h
            rw [wE] at h; cases h
     | n => exact h
 | l p ih =>
   have h1 : ∀ f, sB v (.l p) f (fun f => f) = match f with | .e => .n none (sB v p .e fun f => f) .e | .n w l r => .n w (sB v p l fun f => f) r := fun f => by
    cases f with
    | e => exact yA v p .e fun l => LT.n none l .e
    | n w l r => exact yA v p l fun l => LT.n w l r
   rw [h1] at h
   cases q with
   | z => right; cases f with
     | e => exact h
     | n => exact h
   | r q => right; cases f with
     | e => have h : a1A q .e = some g := h
            rw [wE] at h; cases h
     | n => exact h
   | l q =>
     cases f with
     | e =>
       rcases ih q .e h with ⟨rfl, hq⟩ | h
       ·exact .inl ⟨rfl, hq⟩
       ·rw [wE] at h; cases h
     | n w l r =>
       rcases ih q l h with ⟨rfl, hq⟩ | h
       ·exact .inl ⟨rfl, hq⟩
       ·exact .inr h
 | r p ih =>
   have h1 : ∀ f, sB v (.r p) f (fun f => f) = match f with | .e => .n none .e (sB v p .e fun f => f) | .n w l r => .n w l (sB v p r fun f => f) := fun f => by
    cases f with
    | e => exact yA v p .e fun l => LT.n none .e l
    | n w l r => exact yA v p r fun r => LT.n w l r
   rw [h1] at h
   cases q with
   | z => right; cases f with
     | e => exact h
     | n => exact h
   | l q => right; cases f with
     | e => have h : a1A q .e = some g := h
            rw [wE] at h; cases h
     | n => exact h
   | r q =>
     cases f with
     | e =>
       rcases ih q .e h with ⟨rfl, hq⟩ | h
       ·exact .inl ⟨rfl, hq⟩
       ·rw [wE] at h; cases h
     | n w l r =>
       rcases ih q r h with ⟨rfl, hq⟩ | h
       ·exact .inl ⟨rfl, hq⟩
       ·exact .inr h
theorem b2E {α : Type} (f : FuncId) (no : α) (K : LFunc → α) : (∃ g, FuncOk P f g ∧ a2a P f no K = K g) ∨ a2a P f no K = no := by
 unfold a2a
 split
 ·rename_i fn hfn
  split
  ·rename_i c hb
   rw [kN]
   split
   ·exact .inr rfl
   ·rename_i hn
    rcases b7q (P := P) fn.results.toList (fun res => b2c fn.ntmps fun ps => mZ P fn.ntmps c fun b => K ⟨ps, b, res⟩) no with ⟨res, hres, h1⟩ | h1
    ·rw [h1, b0V]
     obtain ⟨C, hC, h2⟩ := b3H (P := P) fn.ntmps c (fun b => K ⟨(List.range fn.ntmps).map kO, b, res⟩)
     exact .inl ⟨⟨_, C, res⟩, ⟨fn, c, hfn, hb, by simpa using hn, rfl, hC, hres⟩, h2⟩
    ·exact .inr h1
  ·exact .inr rfl
 ·exact .inr rfl
theorem b5q {α : Type} (fs : List FuncId) (T : LT) (hT : TOk P T) (K : LT → α) : ∃ T', TOk P T' ∧ tO P fs T K = K T' := by
 induction fs generalizing T with
 | nil => exact ⟨T, hT, rfl⟩
 | cons f fs ih =>
   have e : tO P (f :: fs) T K = a2a P f (tO P fs T K) fun g => lJ (kO f) fun p => sB g p T fun T => tO P fs T K := rfl
   rw [e]
   rcases b2E (P := P) f (tO P fs T K) (fun g => lJ (kO f) fun p => sB g p T fun T => tO P fs T K) with ⟨g, hg, h⟩ | h
   ·rw [h, lI, yA]
    refine ih _ fun f' g' h' => ?_
    rcases b2X g (kO f) (kO f') T h' with ⟨he, rfl⟩ | h'
    ·rw [b1x he]; exact hg
    ·exact hT f' g' h'
   ·rw [h]; exact ih T hT
end Go.Ds
namespace Go.Ds
open Go.Proofs Go.Proofs.Tryz
def t64 : List Nat := [0, 1, 56, 2, 57, 49, 28, 3, 61, 58, 42, 50, 38, 29, 17, 4, 62, 47, 59, 36, 45, 43, 51, 22, 53, 39, 33, 30, 24, 18, 12, 5, 63, 55, 48, 27, 60, 41, 37, 16, 46, 35, 44, 21, 52, 32, 23, 11, 54, 26, 40, 15, 34, 20, 31, 10, 25, 14, 19, 9, 13, 8, 7, 6]
def t32 : List Nat := [0, 1, 28, 2, 29, 14, 24, 3, 30, 22, 20, 15, 25, 17, 4, 8, 31, 27, 13, 23, 21, 19, 16, 7, 26, 12, 18, 6, 11, 5, 10, 9]
noncomputable def gH : Heap := ((((Heap.nil.cons (.cells (t64.map fun (n : Nat) => Value.int .u8 (.ofNat n)) 5 false 0 1)).cons (.cells [] 3 false 0 1)).cons (.cells ([1, 10, 100, 1000, 10000, 100000, 1000000, 10000000, 100000000, 1000000000, 10000000000, 100000000000, 1000000000000, 10000000000000, 100000000000000, 1000000000000000, 10000000000000000, 100000000000000000, 1000000000000000000, 10000000000000000000].map fun (n : Nat) => Value.int .u64 (.ofNat n)) 39 false 0 1)).cons (.cells (t32.map fun (n : Nat) => Value.int .u8 (.ofNat n)) 5 false 0 1))
theorem c3D : prog.follows .mixedOrders = true := by kernel_rfl
def b1R : Nat → Nat → List UInt8 → List UInt8
 | 0, _, acc => acc
 | f + 1, n, acc => if n < 10 then (48 + n).toUInt8 :: acc else b1R f (n / 10) ((48 + n % 10).toUInt8 :: acc)
def pA (n : Nat) : ByteArray := ⟨(b1R 100 n []).toArray⟩
theorem a5g {b : ByteArray} {n : Nat} (h : b.data.toList = b1R 100 n []) : b = pA n := by
 cases b with | mk d => cases d with | mk l => simp only at h; subst h; rfl
def b1i (r : Rs) (n : Nat) : Bool := match r with
 | .ok (.string b) _ => decide (b.data.toList = b1R 100 n [])
 | .th (.string b) _ => decide (b.data.toList = b1R 100 n [])
 | _ => false
def b8i (v : Value) (n : Nat) : Bool := match v with
 | .tuple vs => match vs.toList with
   | [.string b, .int .i64 m] => decide (m = 0) && decide (b.data.toList = b1R 100 n [])
   | _ => false
 | _ => false
def b5C (r : Rs) (n : Nat) : Bool := match r with
 | .ok v _ => b8i v n
 | .th v _ => b8i v n
 | _ => false
def b7l (r : Rs) (n : Int) : Bool := match r with
 | .ok (.int .i64 m) _ => decide (m = n)
 | .th (.int .i64 m) _ => decide (m = n)
 | _ => false
noncomputable def c0F (ps : List Nat) : Bool := tO prog [117, 130, 122, 160, 181, 194, 197, 198, 199, 200, 203, 204, 205, 206, 208] .e fun T => ps.all fun x => b1i (mR T (exF prog T 4000) [] (kO 130) [.int .i64 x] gH) x
def fsP : List Nat := [117, 192, 177, 179, 52, 129, 122, 191, 202, 84, 85, 156, 157, 158, 159, 163, 201, 207, 174, 175, 176, 178, 180, 182, 183, 189, 190, 193, 195, 197, 198, 199, 200, 203, 204, 205, 206, 208]
noncomputable def uJ (ps : List Nat) : Bool := tO prog fsP .e fun T => ps.all fun x => b5C (mR T (exF prog T 4000) [] (kO 129) [.string (pA x), .int .i64 24] gH) (x ^ 24)
def fsM : List Nat := [117, 192, 177, 179, 52, 130, 131, 122, 160, 191, 202, 84, 85, 156, 157, 158, 159, 161, 163, 181, 201, 207, 174, 175, 176, 178, 180, 182, 183, 194, 189, 190, 193, 195, 197, 198, 199, 200, 203, 204, 205, 206, 208]
noncomputable def lT (ps : List (Nat × Nat)) : Bool := tO prog fsM .e fun T => ps.all fun x => b1i (mR T (exF prog T 4000) [] (kO 131) [.string (pA x.1), .string (pA x.2)] gH) (x.1 * x.2)
def sA (t : Nat × Nat) : List (Nat × Nat) := (t.1 ^ 24, 2) :: (List.range t.2).map fun k => (2 * t.1 ^ 24 * 4 ^ k, 4)
def a5T (t : Nat × Nat × Nat) : List (Nat × Nat) := (List.range (t.2.2 + 1)).map fun k => (t.1 ^ 24, 2 * t.2.1 ^ 24 * 4 ^ k)
def b4x (a b : Nat) : Int := if a < b then -1 else if b < a then 1 else 0
noncomputable def tT (ps : List (Nat × Nat)) : Bool := tO prog [132, 162, 163, 164, 182, 183, 184, 195, 196] .e fun T => ps.all fun x => b7l (mR T (exF prog T 4000) [] (kO 132) [.string (pA x.1), .string (pA x.2)] gH) (b4x x.1 x.2)
end Go.Ds
namespace Go.Ds
open Go.RowKit Go.Proofs
section
variable {P : Program} {ρ : Rho} {H : Heap} {w : World}
theorem a3B {name : String} {g : Nat} {k : IntKind} {zs : List Int} (hg : P.globalNamed name = some g) (ht : Lib.TabIs P w name k zs) : ∃ t fr, w.heap[g]? = some (.cells (zs.map fun z => Value.int k z).toArray t fr) := by
 unfold Lib.TabIs World.var? at ht
 rw [hg, cU] at ht
 split at ht
 ·rename_i cs t fr hb
  obtain rfl := cS ht
  exact ⟨t, fr, hb⟩
 ·cases ht
theorem InW.cJ (h : InW P ρ H w) {name : String} {g : Nat} {k : IntKind} {zs : List Int} {ty : TypeId} (hg : P.globalNamed name = some g) (ht : Lib.TabIs P w name k zs) (hgH : g = H.length) (hty : iD P ty = some 1) :
 InW P (ρ.put H.length (zs.map fun z => Value.int k z).length ⟨g, 0, zs.length, 1⟩) (H.cons (.cells (zs.map fun z => Value.int k z) ty false 0 1)) w := by
 obtain ⟨t, fr, hb⟩ := a3B hg ht
 refine (h.row ⟨g, 0, zs.length, 1⟩ hb (ty := ty) hty (by simp) (zs.map fun z => Value.int k z) 1 (fun _ => ⟨hgH, rfl⟩) (by simp) fun i c hi _ hc => ⟨c, ?_, ?_⟩).1
 ·have : (⟨g, 0, zs.length, 1⟩ : Place).at i = i := by simp [Place.at]
  rw [this]
  simpa using hc
 ·rw [eF] at hc
  obtain ⟨z, _, rfl⟩ := dc.1 hc
  exact .c0 (.flat rfl)
end
theorem c3I : ∀ A b, iR gH A = some b → ∃ cs ty lo, b = .cells cs ty false lo 1 ∧ kH cs = true := by
 intro A b h
 unfold gH at h
 have hn : ∀ (H : Heap) (c : Blk), iR (H.cons c) A = some b → (A = H.length ∧ b = c) ∨ iR H A = some b := fun H c h => by
  by_cases he : A = H.length
  ·subst he; rw [iN] at h; exact .inl ⟨rfl, (cS h).symm⟩
  ·have hA : A < (H.cons c).length := jJ h
   rw [length_cons] at hA
   rw [jM _ (by omega)] at h
   exact .inr h
 rcases hn _ _ h with ⟨_, rfl⟩ | h
 ·exact ⟨_, _, _, rfl, by kernel_rfl⟩
 rcases hn _ _ h with ⟨_, rfl⟩ | h
 ·exact ⟨_, _, _, rfl, by kernel_rfl⟩
 rcases hn _ _ h with ⟨_, rfl⟩ | h
 ·exact ⟨_, _, _, rfl, by kernel_rfl⟩
 rcases hn _ _ h with ⟨_, rfl⟩ | h
 ·exact ⟨_, _, _, rfl, by kernel_rfl⟩
 ·have : A < 0 := jJ h
  omega
theorem ExtW.glob {ρ ρ' : Rho} {H' : Heap} (h : ExtW ρ gH ρ' H') : Glob gH H' := ⟨h.len, fun A hA => h.old A hA, c3I⟩
def p10 : List Int := [1, 10, 100, 1000, 10000, 100000, 1000000, 10000000, 100000000, 1000000000, 10000000000, 100000000000, 1000000000000, 10000000000000, 100000000000000, 1000000000000000, 10000000000000000, 100000000000000000, 1000000000000000000, 10000000000000000000]
theorem g64 : Tryz.prog.globalNamed "math/bits.deBruijn64tab" = some 0 := by kernel_rfl
theorem nS : Tryz.prog.globalNamed "internal/strconv.uint64pow10" = some 2 := by kernel_rfl
theorem g32 : Tryz.prog.globalNamed "math/bits.deBruijn32tab" = some 3 := by kernel_rfl
theorem b8f {w : World} (h64 : Lib.TabIs Tryz.prog w "math/bits.deBruijn64tab" .u8 (t64.map Int.ofNat)) (h10 : Lib.TabIs Tryz.prog w "internal/strconv.uint64pow10" .u64 p10)
 (h32 : Lib.TabIs Tryz.prog w "math/bits.deBruijn32tab" .u8 (t32.map Int.ofNat)) (h1001 : ∃ cs t fr, w.heap[1]? = some (.cells cs t fr)) : ∃ ρ, InW Tryz.prog ρ gH w := by
 have a0 := (InW.none (P := Tryz.prog) w).cJ g64 h64 (ty := 5) rfl (by kernel_rfl)
 obtain ⟨cs1, t1, fr1, hb1⟩ := h1001
 have a1 := (a0.row ⟨1, 0, cs1.size, 1⟩ hb1 (ty := 3) (by kernel_rfl) rfl [] 1 (fun _ => ⟨rfl, rfl⟩) (by simp) (fun i c hi => by simp at hi)).1
 have a2 := a1.cJ nS h10 (ty := 39) rfl (by kernel_rfl)
 have a3 := a2.cJ g32 h32 (ty := 5) rfl (by kernel_rfl)
 exact ⟨_, a3⟩
end Go.Ds
namespace Go.Ds
noncomputable section
variable {P : Program} {H0 : Base} {H : Heap} {os : List Ob} {κ β : Type} [DecidableEq κ] {enc : κ → Value} {f : β → Value} {t : TypeId} {z : Value}
structure MapK (P : Program) (t : TypeId) {κ : Type} [DecidableEq κ] (enc : κ → Value) (z : Value) : Prop where
 ex : ∃ kt et, xS P t = some (kt, et) ∧ jA P et = some z ∧ jB z = true ∧ (∀ b k, yF P b kt (enc k) = true) ∧
  (∀ k (es : List MapEntry) (ks : List κ), es.map (·.key) = ks.map enc → rP P kt (enc k) es = some (ks.findIdx? fun x => decide (x = k))) ∧ ∀ k, Instr.sameBits 10000 (enc k) (enc k) = true
def kcs (enc : κ → Value) (f : β → Value) (kvs : List (κ × β)) : List Value := kvs.flatMap fun p => [enc p.1, f p.2]
def a1R (kvs : List (κ × β)) (k : κ) : Option β := (kvs.find? fun p => decide (p.1 = k)).map (·.2)
def a5t (kvs : List (κ × β)) (k : κ) (v : β) : List (κ × β) := match kvs.findIdx? (fun p => decide (p.1 = k)) with
 | some j => kvs.set j (k, v)
 | none => kvs ++ [(k, v)]
theorem a5m : ∀ (es : List MapEntry) (kvs : List (κ × β)), kcs enc f kvs = mcs es → es.map (·.key) = kvs.map (fun p => enc p.1) ∧ es.map (·.val) = kvs.map (fun p => f p.2)
 | [], [], _ => ⟨rfl, rfl⟩
 | [], p :: kvs, h => by simp [kcs, mcs] at h
 | e :: es, [], h => by simp [kcs, mcs] at h
 | e :: es, p :: kvs, h => by
   simp only [kcs, mcs, dH, gY, eY, fL] at h
   obtain ⟨h1, h2, h3⟩ := h
   obtain ⟨h4, h5⟩ := a5m es kvs h3
   simp only [dZ]
   exact ⟨by rw [h4, h1], by rw [h5, h2]⟩
theorem a9g : ∀ (es : List MapEntry) (kvs : List (κ × β)), es.map (·.key) = kvs.map (fun p => enc p.1) → es.map (·.val) = kvs.map (fun p => f p.2) → kcs enc f kvs = mcs es
 | [], [], _, _ => rfl
 | [], p :: kvs, h, _ => by simp at h
 | e :: es, [], h, _ => by simp at h
 | e :: es, p :: kvs, h, h' => by
   simp only [dZ, fL] at h h'
   have := a9g es kvs h.2 h'.2
   simp only [kcs, mcs, dH] at this ⊢
   rw [this, h.1, h'.1]
theorem St.bX (hS : St P H0 H os) (i : Nat) {A : Nat} {cs : List Value} (ho : os[i]? = some ⟨.map (some A), 0, cs⟩) : ∃ es ck ver, iR H A = some (.map es ck ver) ∧ cs = mcs es ∧ Stamps es ck := by
 have := hS.own _ (dK ho)
 unfold OwnAt at this
 rw [if_pos rfl] at this
 rcases this with ⟨_, _, _, _, _, _, h⟩ | ⟨A', es, ck, ver, h1, h2, h3, h4⟩
 ·cases h
 ·simp only [Value.map.injEq, dz] at h3
  subst h3
  exact ⟨es, ck, ver, h1, h2, h4⟩
theorem b0H (kvs : List (κ × β)) (k : κ) : (∃ j x, (kvs.map (·.1)).findIdx? (fun x => decide (x = k)) = some j ∧ kvs[j]? = some x ∧ kvs.find? (fun p => decide (p.1 = k)) = some x) ∨ ((kvs.map (·.1)).findIdx? (fun x => decide (x = k)) = none ∧ kvs.find? (fun p => decide (p.1 = k)) = none) := by
 induction kvs with
 | nil => exact .inr ⟨rfl, rfl⟩
 | cons p kvs ih =>
   by_cases h : p.1 = k
   ·exact .inl ⟨0, p, by simp [eS, h], rfl, by simp [h]⟩
   ·rcases ih with ⟨j, x, h1, h2, h3⟩ | ⟨h1, h2⟩
    ·exact .inl ⟨j + 1, x, by simp [eS, h, h1], by simpa using h2, by simp [h, h3]⟩
    ·exact .inr ⟨by simp [eS, h, h1], by simp [h, h2]⟩
theorem St.cQ (hS : St P H0 H os) (i : Nat) {A : Nat} {kvs : List (κ × β)} (ho : os[i]? = some ⟨.map (some A), 0, kcs enc f kvs⟩) (hk : MapK P t enc z) (hf : ∀ b, mU (f b) = true) (c : Bool) (k : κ) :
 pG P H t (.map (some A)) (enc k) c = some (pairV c (((a1R kvs k).map f).getD z) (a1R kvs k).isSome) := by
 obtain ⟨kt, et, h1, h2, h3, h4, h5, h6⟩ := hk.ex
 obtain ⟨es, ck, ver, h7, h8, _⟩ := hS.bX i ho
 obtain ⟨h9, h10⟩ := a5m es kvs h8
 have hi := h5 k es (kvs.map (·.1)) (by rw [h9]; simp [gS])
 simp only [pG, h1, cU, a1x, h7, h4, if_true, hi, a1R]
 rcases b0H kvs k with ⟨j, x, e1, e2, e3⟩ | ⟨e1, e3⟩
 ·have hj : es[j]?.map (·.val) = some (f x.2) := by
   rw [← eF, h10, eF, e2]; rfl
  cases he : es[j]? with
  | none => rw [he] at hj; simp at hj
  | some e =>
    rw [he] at hj
    simp only [dI, dz] at hj
    simp only [e1, he, cU, hj, hf, if_true, e3, dI, eV, Option.isSome_some]
 ·simp only [e1, e3, Option.map_none, Option.getD_none, Option.isSome_none, h2, cU, h3, if_true]
def a6x (P : Program) (H : Heap) (t : TypeId) (x k : Value) (c : Bool) (K : Value → Prop) (_k : Keep K := ⟨⟩) : Prop := ∃ v, pG P H t x k c = some v ∧ K v
theorem a6W {t : TypeId} {x x' k k' : Value} {c : Bool} {K : Value → Prop} (h : x = x') (h2 : k = k') : a6x P H t x k c K = a6x P H t x' k' c K := by rw [h, h2]
attribute [congr] a6W
theorem a8S (d ty pos af g) (t : TypeId) (x k : Operand) (c : Bool) (l : List Value) (K : Value → Heap → Prop) :
 lY P ⟨d, .lookup t x k c, ty, pos, af, g⟩ l H K = jI x l fun x => jI k l fun k => a6x P H t x k c fun v => K v H := by
 have h2 : jZ ((pG P H t (ev l x) (ev l k) c).map fun v => (v, H)) K = ∃ v, pG P H t (ev l x) (ev l k) c = some v ∧ K v H := by
  cases pG P H t (ev l x) (ev l k) c <;> simp [jZ]
 simp only [lY, opD, jI, Op.operands, a6x, h2]
 simp [and_assoc]
theorem St.bN (hS : St P H0 H os) (i : Nat) {A : Nat} {kvs : List (κ × β)} (ho : os[i]? = some ⟨.map (some A), 0, kcs enc f kvs⟩) (hk : MapK P t enc z) (hf : ∀ b, mU (f b) = true) {c : Bool} {k : κ} {K : Value → Prop}
 (h : K (pairV c (((a1R kvs k).map f).getD z) (a1R kvs k).isSome)) : a6x P H t (.map (some A)) (enc k) c K := ⟨_, hS.cQ i ho hk hf c k, h⟩
def a5f (P : Program) (H : Heap) (t : TypeId) (K : Value → Heap → Prop) (_k : Keep K := ⟨⟩) : Prop := ∃ v H1, pQ P H t none = some (v, H1) ∧ K v H1
theorem a6d (d ty pos af g) (t : TypeId) (l : List Value) (K : Value → Heap → Prop) : lY P ⟨d, .makeMap t none, ty, pos, af, g⟩ l H K = a5f P H t K := by
 simp only [lY, opD, Op.operands, a5f, mO]
 simp
theorem St.bT (hS : St P H0 H os) (hk : MapK P t enc z) {K : Value → Heap → Prop} (h : ∀ A H1, St P H0 H1 (os ++ [⟨.map (some A), 0, []⟩]) → K (.map (some A)) H1) : a5f P H t K := by
 obtain ⟨kt, et, h1, _⟩ := hk.ex
 refine ⟨.map (some H.length), H.cons (.map [] 0 0), by simp [pQ, h1], h _ _ (hS.add ?_ ?_ ?_ ?_)⟩
 ·unfold OwnAt
  rw [if_pos rfl]
  exact .inr ⟨_, [], 0, 0, iN H _, rfl, rfl, .nil 0⟩
 ·simp [pH]
 ·exact fun B hB => jM _ hB
 ·intro B hB
  simp [kJ] at hB
  omega
def b6g (P : Program) (H : Heap) (t : TypeId) (m k v : Value) (K : Heap → Prop) (_k : Keep K := ⟨⟩) : Prop := ∃ H1, a0P P H t m k v = some H1 ∧ K H1
theorem a8G {t : TypeId} {m m' k k' v v' : Value} {K : Heap → Prop} (h : m = m') (h2 : k = k') (h3 : v = v') : b6g P H t m k v K = b6g P H t m' k' v' K := by rw [h, h2, h3]
attribute [congr] a8G
theorem a3o (d ty pos af g) (t : TypeId) (m k v : Operand) (l : List Value) (K : Value → Heap → Prop) :
 lY P ⟨d, .mapUpdate t m k v, ty, pos, af, g⟩ l H K = jI m l fun m => jI k l fun k => jI v l fun v => b6g P H t m k v fun H1 => K undef H1 := by
 have h2 : jZ ((a0P P H t (ev l m) (ev l k) (ev l v)).map fun H => (undef, H)) K = ∃ H1, a0P P H t (ev l m) (ev l k) (ev l v) = some H1 ∧ K undef H1 := by
  cases a0P P H t (ev l m) (ev l k) (ev l v) <;> simp [jZ]
 simp only [lY, opD, jI, Op.operands, b6g, h2]
 simp [and_assoc]
theorem b1c (kvs : List (κ × β)) (k : κ) (v : β) : a5t kvs k v = match (kvs.map (·.1)).findIdx? (fun x => decide (x = k)) with | some j => kvs.set j (k, v) | none => kvs ++ [(k, v)] := by
 unfold a5t
 rw [List.findIdx?_map]
 rfl
theorem St.cd (hS : St P H0 H os) (i : Nat) {A : Nat} {kvs : List (κ × β)} (ho : os[i]? = some ⟨.map (some A), 0, kcs enc f kvs⟩) (hk : MapK P t enc z) {k : κ} {v : β} {K : Heap → Prop}
 (h : ∀ H1, St P H0 H1 (os.set i ⟨.map (some A), 0, kcs enc f (a5t kvs k v)⟩) → K H1) : b6g P H t (.map (some A)) (enc k) (f v) K := by
 obtain ⟨kt, et, h1, h2, h3, h4, h5, h6⟩ := hk.ex
 obtain ⟨es, ck, ver, h7, h8, hst⟩ := hS.bX i ho
 obtain ⟨h9, h10⟩ := a5m es kvs h8
 have hi := h5 k es (kvs.map (·.1)) (by rw [h9]; simp [gS])
 have fin : ∀ es' ck', mcs es' = kcs enc f (a5t kvs k v) → Stamps es' ck' → St P H0 (hset H A (.map es' ck' (ver + 1))) (os.set i ⟨.map (some A), 0, kcs enc f (a5t kvs k v)⟩) := by
  intro es' ck' he hst'
  refine hS.put i ho ?_ ?_ ?_ ?_
  ·unfold OwnAt
   rw [if_pos rfl]
   exact .inr ⟨A, es', ck', _, iS _ (jJ h7), he.symm, rfl, hst'⟩
  ·rw [jL]; exact de _
  ·intro B hB hne
   exact qY fun hh => hne (by simp [kJ, hh])
  ·exact fun B hB => .inl hB
 rcases b0H kvs k with ⟨j, x, e1, e2, _⟩ | ⟨e1, _⟩
 ·have hj : es[j]?.map (·.key) = some (enc x.1) := by
   rw [← eF, h9, eF, e2]; rfl
  have hx : x.1 = k := by
   have := List.findIdx?_eq_some_iff_getElem.1 e1
   obtain ⟨hlt, hd, _⟩ := this
   have hlt' : j < kvs.length := by simpa using hlt
   have : kvs[j] = x := by
    rw [dh hlt'] at e2
    exact cS e2
   simp [this] at hd
   exact hd
  cases he : es[j]? with
  | none => rw [he] at hj; simp at hj
  | some e =>
    rw [he] at hj
    simp only [dI, dz] at hj
    refine ⟨hset H A (.map (es.set j { e with key := enc k, val := f v }) ck (ver + 1)), ?_, h _ (fin _ _ ?_ (hst.set he _ rfl))⟩
    ·have hsb : Instr.sameBits 10000 e.key (enc k) = true := by rw [hj, hx]; exact h6 k
     simp only [a0P, h1, cU, h7, h4, if_true, hi, e1, he, hsb]
    ·symm
     rw [b1c, e1]
     refine a9g _ _ ?_ ?_
     ·rw [gT, gT, h9]
     ·rw [gT, gT, h10]
 ·refine ⟨hset H A (.map (es ++ [{ key := enc k, val := f v, born := ck }]) (ck + 1) (ver + 1)), ?_, h _ (fin _ _ ?_ (hst.push _ rfl))⟩
  ·simp only [a0P, h1, cU, h7, h4, if_true, hi, e1]
  ·symm
   rw [b1c, e1]
   refine a9g _ _ ?_ ?_
   ·rw [dP, dP, h9]; rfl
   ·rw [dP, dP, h10]; rfl
def b9q (P : Program) (H : Heap) (t : TypeId) (m k : Value) (K : Value → Heap → Prop) (_k : Keep K := ⟨⟩) : Prop := ∃ v H1, sQ P H t m k = some (v, H1) ∧ K v H1
theorem a9Q {t : TypeId} {m m' k k' : Value} {K : Value → Heap → Prop} (h : m = m') (h2 : k = k') : b9q P H t m k K = b9q P H t m' k' K := by rw [h, h2]
attribute [congr] a9Q
def b1h (H : Heap) (m b v : Value) (K : Heap → Prop) (_k : Keep K := ⟨⟩) : Prop := ∃ H1, rK H m b v = some H1 ∧ K H1
theorem a6u {m m' b b' v v' : Value} {K : Heap → Prop} (h : m = m') (h2 : b = b') (h3 : v = v') : b1h H m b v K = b1h H m' b' v' K := by rw [h, h2, h3]
attribute [congr] a6u
theorem a4D (d ty pos af g) (t : TypeId) (m k : Operand) (l : List Value) (K : Value → Heap → Prop) :
 lY P ⟨d, .mapEntry t m k, ty, pos, af, g⟩ l H K = jI m l fun m => jI k l fun k => b9q P H t m k K := by
 have h2 : jZ (sQ P H t (ev l m) (ev l k)) K = ∃ v H1, sQ P H t (ev l m) (ev l k) = some (v, H1) ∧ K v H1 := mO ..
 simp only [lY, opD, jI, Op.operands, b9q, h2]
 simp [and_assoc]
theorem a1U (d ty pos af g) (t : TypeId) (m b v : Operand) (l : List Value) (K : Value → Heap → Prop) :
 lY P ⟨d, .entryStore t m b v, ty, pos, af, g⟩ l H K = jI m l fun m => jI b l fun b => jI v l fun v => b1h H m b v fun H1 => K undef H1 := by
 have h2 : jZ ((rK H (ev l m) (ev l b) (ev l v)).map fun H => (undef, H)) K = ∃ H1, rK H (ev l m) (ev l b) (ev l v) = some H1 ∧ K undef H1 := by
  cases rK H (ev l m) (ev l b) (ev l v) <;> simp [jZ]
 simp only [lY, opD, jI, Op.operands, b1h, h2]
 simp [and_assoc]
theorem a2E (kvs : List (κ × β)) (k k' : κ) (v : β) : a1R (a5t kvs k v) k' = if k' = k then some v else a1R kvs k' := by
 unfold a1R a5t
 induction kvs with
 | nil =>
   by_cases h : k' = k
   ·simp [h]
   ·simp [h, eU h]
 | cons p kvs ih =>
   by_cases hp : p.1 = k
   ·simp only [eS, hp, decide_true, if_true, fJ, List.find?_cons]
    by_cases h : k' = k
    ·simp [h]
    ·simp [h, eU h]
   ·have hd : decide (p.1 = k) = false := by simp [hp]
    simp only [eS, hd, dR, if_false]
    by_cases hq : p.1 = k'
    ·have hne : ¬ k' = k := fun e => hp (hq.trans e)
     cases hh : kvs.findIdx? (fun p => decide (p.1 = k)) with
     | none => simp [hq, hne]
     | some j => simp [hq, hne]
    ·cases hh : kvs.findIdx? (fun p => decide (p.1 = k)) with
     | none =>
       rw [hh] at ih
       simpa [hq, List.find?_cons] using ih
     | some j =>
       rw [hh] at ih
       simpa [hq, List.find?_cons] using ih
end
end Go.Ds
namespace Go.Ds
noncomputable section
variable {P : Program} {H : Heap}
theorem kM {α : Type} (P : Program) (x : α) : iL P (pure x) = some x := rfl
theorem jS {t : TypeId} {d : TypeDesc} (h : P.underlying t = some d) : iL P (underlying t) = some d := by
 unfold underlying
 rw [iJ]
 have : iL P program = some P := rfl
 rw [this, cU, h]
 rfl
def lC : Operand → Bool
 | .const _ => true
 | _ => false
def oO (c : Bool) (i : Nat) (v : Value) : Operand := if c then .const v else .tmp i
def kP (P : Program) (op : BinOp) (t t2 : TypeId) (cx cy : Bool) (x y : Value) : Option Value := (opD P ⟨none, .binOp op t (oO cx 0 x) (oO cy 1 y) t2, t, "", #[], none⟩ [x, y] .nil).map (·.1)
def kS (P : Program) (op : BinOp) (t t2 : TypeId) (cx cy : Bool) (x y : Value) (K : Value → Prop) (_k : Keep K := ⟨⟩) : Prop := match x, y with
 | .int k a, .int k' b => (match (if k = k' then mI op k a b else none) with | some v => K v | none => jP (kP P op t t2 cx cy (.int k a) (.int k' b)) K)
 | x, y => jP (kP P op t t2 cx cy x y) K
theorem a6f {op : BinOp} {t t2 : TypeId} {cx cy : Bool} {x x' y y' : Value} {K : Value → Prop} (h : x = x') (h2 : y = y') : kS P op t t2 cx cy x y K = kS P op t t2 cx cy x' y' K := by rw [h, h2]
attribute [congr] a6f
theorem a9r (x : Operand) (l m : List Value) : ev (ev l x :: m) (oO (lC x) 0 (ev l x)) = ev l x := by cases x <;> rfl
theorem a8w (x : Operand) (l m : List Value) (a : Value) : ev (a :: ev l x :: m) (oO (lC x) 1 (ev l x)) = ev l x := by cases x <;> rfl
theorem b5s (op : BinOp) (t : TypeId) (x y : Operand) (l : List Value) : eqGuard op t x y (ev l x) (ev l y) = eqGuard op t (oO (lC x) 0 (ev l x)) (oO (lC y) 1 (ev l y)) (ev l x) (ev l y) := by
 generalize hx : ev l x = vx
 generalize hy : ev l y = vy
 cases x <;> cases y <;> rfl
theorem b8D (d ty pos af g) (op : BinOp) (t : TypeId) (x y : Operand) (t2 : TypeId) (l : List Value) (H : Heap) :
 opD P ⟨d, .binOp op t x y t2, ty, pos, af, g⟩ l H = (kP P op t t2 (lC x) (lC y) (ev l x) (ev l y)).map fun v => (v, H) := by
 have hp : kL P ⟨d, .binOp op t x y t2, ty, pos, af, g⟩ l H = _ := mV (P := P) ⟨d, .binOp op t x y t2, ty, pos, af, g⟩ ⟨none, .binOp op t (oO (lC x) 0 (ev l x)) (oO (lC y) 1 (ev l y)) t2, t, "", #[], none⟩ l [ev l x, ev l y] H
  (by simp only [Op.operands, dZ, fP, a9r, a8w]) (by
    simp only [execOp]
    rw [a9r, a8w, ← b5s])
 simp only [opD, kP, hp, a9r, a8w]
 generalize kL P _ _ _ = r
 generalize ev l x = vx
 generalize ev l y = vy
 split
 all_goals first
  | (split <;> first | rfl | (split <;> first | rfl | (cases r <;> rfl)) | (cases r <;> rfl))
  | (cases r <;> rfl)
theorem b4a (d ty pos af g) (op : BinOp) (t : TypeId) (x y : Operand) (t2 : TypeId) (l : List Value) (K : Value → Heap → Prop) :
 lY P ⟨d, .binOp op t x y t2, ty, pos, af, g⟩ l H K = jI x l fun x' => jI y l fun y' => kS P op t t2 (lC x) (lC y) x' y' fun v => K v H := by
 have h : jZ (opD P ⟨d, .binOp op t x y t2, ty, pos, af, g⟩ l H) K = kS P op t t2 (lC x) (lC y) (ev l x) (ev l y) fun v => K v H := by
  have key : jZ ((kP P op t t2 (lC x) (lC y) (ev l x) (ev l y)).map fun v => (v, H)) K = jP (kP P op t t2 (lC x) (lC y) (ev l x) (ev l y)) fun v => K v H := by
   cases kP P op t t2 (lC x) (lC y) (ev l x) (ev l y) <;> rfl
  rw [b8D, key]
  unfold kS
  split
  ·rename_i k a k' b hx hy
   split
   ·rename_i v hv
    split at hv
    ·rename_i hk
     subst hk
     have : kP P op t t2 (lC x) (lC y) (.int k a) (.int k b) = some v := by
      have h1 : ∀ m, ev ((.int k a : Value) :: m) (oO (lC x) 0 (.int k a)) = .int k a := fun m => by cases lC x <;> rfl
      have h2 : ∀ m c, ev (c :: (.int k b : Value) :: m) (oO (lC y) 1 (.int k b)) = .int k b := fun m c => by cases lC y <;> rfl
      cases op <;> simp only [mI] at hv <;> first | (cases hv; done) | (simp only [kP, opD, h1, h2, mI, if_true, hv]; rfl)
     rw [hx, hy, this]
     rfl
    ·cases hv
   ·rw [hx, hy]
  ·rfl
 simp only [lY, h, jI, Op.operands]
 simp [and_assoc]
theorem lV (op : BinOp) (t t2 : TypeId) (cx cy : Bool) (k : IntKind) (a b : Int) {v : Value} (K : Value → Prop) (h : mI op k a b = some v) : kS P op t t2 cx cy (.int k a) (.int k b) K = nV v K := by
 simp [kS, h, nV]
section
theorem b3o (t t2 : TypeId) (cx cy : Bool) (k : IntKind) (a b : Int) (K : Value → Prop) : kS P .add t t2 cx cy (.int k a) (.int k b) K = nV (.int k (k.wrap (a + b))) K := lV _ _ _ _ _ _ _ _ _ (by simp [mI, b1J, uM])
theorem b3d (t t2 : TypeId) (cx cy : Bool) (k : IntKind) (a b : Int) (K : Value → Prop) : kS P .sub t t2 cx cy (.int k a) (.int k b) K = nV (.int k (k.wrap (a - b))) K := lV _ _ _ _ _ _ _ _ _ (by simp [mI, b1r, uM])
theorem b2U (t t2 : TypeId) (cx cy : Bool) (k : IntKind) (a b : Int) (K : Value → Prop) : kS P .mul t t2 cx cy (.int k a) (.int k b) K = nV (.int k (k.wrap (a * b))) K := lV _ _ _ _ _ _ _ _ _ (by simp [mI, uM])
theorem b3i (t t2 : TypeId) (cx cy : Bool) (k : IntKind) (a b : Int) (K : Value → Prop) : kS P .eql t t2 cx cy (.int k a) (.int k b) K = nV (.bool (decide (a = b))) K := lV _ _ _ _ _ _ _ _ _ (by simp [mI, a2x]; rfl)
theorem b3T (t t2 : TypeId) (cx cy : Bool) (k : IntKind) (a b : Int) (K : Value → Prop) : kS P .neq t t2 cx cy (.int k a) (.int k b) K = nV (.bool (decide (¬ a = b))) K := lV _ _ _ _ _ _ _ _ _ (by simp [mI, a2x]; rfl)
theorem b3A (t t2 : TypeId) (cx cy : Bool) (k : IntKind) (a b : Int) (K : Value → Prop) : kS P .lss t t2 cx cy (.int k a) (.int k b) K = nV (.bool (decide (a < b))) K := lV _ _ _ _ _ _ _ _ _ (by simp [mI, zJ])
theorem b1V (t t2 : TypeId) (cx cy : Bool) (k : IntKind) (a b : Int) (K : Value → Prop) : kS P .leq t t2 cx cy (.int k a) (.int k b) K = nV (.bool (decide (a ≤ b))) K := lV _ _ _ _ _ _ _ _ _ (by simp [mI, zJ, ← Int.not_lt])
theorem b1P (t t2 : TypeId) (cx cy : Bool) (k : IntKind) (a b : Int) (K : Value → Prop) : kS P .gtr t t2 cx cy (.int k a) (.int k b) K = nV (.bool (decide (b < a))) K := lV _ _ _ _ _ _ _ _ _ (by simp [mI, zJ])
theorem b1Y (t t2 : TypeId) (cx cy : Bool) (k : IntKind) (a b : Int) (K : Value → Prop) : kS P .geq t t2 cx cy (.int k a) (.int k b) K = nV (.bool (decide (b ≤ a))) K := lV _ _ _ _ _ _ _ _ _ (by simp [mI, zJ, ← Int.not_lt])
theorem b2L (t t2 : TypeId) (cx cy : Bool) (k : IntKind) (a b : Int) (K : Value → Prop) (hb : b ≠ 0) : kS P .rem t t2 cx cy (.int k a) (.int k b) K = nV (.int k (a.tmod b)) K := lV _ _ _ _ _ _ _ _ _ (by
 have : (b == 0) = false := by simp [hb]
 simp [mI, a2x, this])
theorem b3K (t t2 : TypeId) (cx cy : Bool) (k : IntKind) (a b : Int) (K : Value → Prop) (hb : b ≠ 0) : kS P .quo t t2 cx cy (.int k a) (.int k b) K = nV (.int k (k.wrap (a.tdiv b))) K := lV _ _ _ _ _ _ _ _ _ (by
 have : (b == 0) = false := by simp [hb]
 simp [mI, a2x, uM, this])
end
theorem lK {op : BinOp} {t t2 : TypeId} {cx cy : Bool} {x y v : Value} (hx : flat x = true) (hy : flat y = true) (hg : iL P (eqGuard op t (oO cx 0 x) (oO cy 1 y) x y) = some ())
 (hv : iL P (binOp op t x y) = some v) (hf : flat v = true) (hs : ∀ a n c, x ≠ .slice (some a) n c) (hp : ∀ a, x ≠ .pointer (some a)) (hi : ∀ k a b, x = .int k a → y = .int k b → mI op k a b = none) : kP P op t t2 cx cy x y = some v := by
 have h1 : ∀ m, ev (x :: m) (oO cx 0 x) = x := fun m => by cases cx <;> rfl
 have h2 : ∀ m c, ev (c :: y :: m) (oO cy 1 y) = y := fun m c => by cases cy <;> rfl
 have hpl : kL P ⟨none, .binOp op t (oO cx 0 x) (oO cy 1 y) t2, t, "", #[], none⟩ [x, y] .nil = some (v, .nil) := by
  unfold kL
  rw [if_pos (by simp [Op.operands, h1, h2, hx, hy])]
  have : execOp (ev [x, y]) ⟨none, .binOp op t (oO cx 0 x) (oO cy 1 y) t2, t, "", #[], none⟩ = (do let v ← (do eqGuard op t (oO cx 0 x) (oO cy 1 y) x y; binOp op t x y); pure (.value v)) := by
   simp only [execOp, h1, h2]
  rw [this, iJ, iJ, hg, cU, hv, cU, kM]
  simp only [hf, if_true]
 simp only [kP, opD, h1, h2, hpl]
 split
 ·exact absurd rfl (hs _ _ _)
 ·exact absurd rfl (hs _ _ _)
 ·rename_i k a k' b
  split
  ·rename_i hk
   subst hk
   rw [hi _ _ _ rfl rfl]
   rfl
  ·rfl
 ·exact absurd rfl (hp _)
 ·exact absurd rfl (hp _)
 ·exact absurd rfl (hp _)
 ·exact absurd rfl (hp _)
 ·rfl
theorem qI {op : BinOp} {t : TypeId} {x y : Operand} {k k' : IntKind} {a b : Int} : iL P (eqGuard op t x y (.int k a) (.int k' b)) = some () := by
 unfold eqGuard
 split <;> rfl
section
theorem b5D (t t2 : TypeId) (cx cy : Bool) (a b : Int) {k k' : IntKind} (hb : 0 ≤ b) : kP P .shr t t2 cx cy (.int k a) (.int k' b) = some (.int k (a.fdiv (2 ^ (min b.toNat k.bits)))) :=
 lK rfl rfl qI (by simp only [binOp, Op.shift]; rw [if_neg (by omega)]; rfl) rfl (by simp) (by simp) (by intros; rfl)
theorem b6N (t t2 : TypeId) (cx cy : Bool) (a b : Int) {k k' : IntKind} (hb : 0 ≤ b) : kP P .shl t t2 cx cy (.int k a) (.int k' b) = some (.int k (k.wrap (a * 2 ^ (min b.toNat k.bits)))) :=
 lK rfl rfl qI (by simp only [binOp, Op.shift]; rw [if_neg (by omega)]; rfl) rfl (by simp) (by simp) (by intros; rfl)
theorem b4Q (t t2 : TypeId) (cx cy : Bool) (a b : Int) (k : IntKind) : kP P .and t t2 cx cy (.int k a) (.int k b) = some (.int k (k.wrap (BitVec.ofInt k.bits a &&& BitVec.ofInt k.bits b).toNat)) :=
 lK rfl rfl qI (by simp only [binOp]; rw [if_neg (by simp)]; rfl) rfl (by simp) (by simp) (by intros; rfl)
theorem b9n (t t2 : TypeId) (cx cy : Bool) (a b : Int) (k : IntKind) : kP P .or t t2 cx cy (.int k a) (.int k b) = some (.int k (k.wrap (BitVec.ofInt k.bits a ||| BitVec.ofInt k.bits b).toNat)) :=
 lK rfl rfl qI (by simp only [binOp]; rw [if_neg (by simp)]; rfl) rfl (by simp) (by simp) (by intros; rfl)
theorem b7p (t t2 : TypeId) (cx cy : Bool) (a b : Int) (k : IntKind) : kP P .xor t t2 cx cy (.int k a) (.int k b) = some (.int k (k.wrap (BitVec.ofInt k.bits a ^^^ BitVec.ofInt k.bits b).toNat)) :=
 lK rfl rfl qI (by simp only [binOp]; rw [if_neg (by simp)]; rfl) rfl (by simp) (by simp) (by intros; rfl)
theorem a7g (t t2 : TypeId) (cx cy : Bool) (a b : Int) (k : IntKind) : kP P .andNot t t2 cx cy (.int k a) (.int k b) = some (.int k (k.wrap (BitVec.ofInt k.bits a &&& ~~~ BitVec.ofInt k.bits b).toNat)) :=
 lK rfl rfl qI (by simp only [binOp]; rw [if_neg (by simp)]; rfl) rfl (by simp) (by simp) (by intros; rfl)
end
section
variable (a b : ByteArray)
theorem zV {op : BinOp} {t : TypeId} {x y : Operand} : iL P (eqGuard op t x y (.string a) (.string b)) = some () := by
 unfold eqGuard
 split <;> rfl
theorem a0N (h : a.data.toList = b.data.toList) : a = b := by
 cases a; cases b
 simp only [ByteArray.mk.injEq]
 exact Array.toList_inj.1 h
theorem a1W : (a.toList == b.toList) = decide (a = b) := by
 rw [ByteArray.toList_eq, ByteArray.toList_eq, eo, beq_iff_eq, decide_eq_true_iff]
 exact ⟨a0N a b, fun h => by rw [h]⟩
theorem a8Y (t t2 : TypeId) (cx cy : Bool) (a b : ByteArray) : kP P .eql t t2 cx cy (.string a) (.string b) = some (.bool (decide (a = b))) :=
 lK rfl rfl (zV a b) (by rw [← a1W]; rfl) rfl (by simp) (by simp) (by intro _ _ _ h; cases h)
theorem a9w (t t2 : TypeId) (cx cy : Bool) (a b : ByteArray) : kP P .neq t t2 cx cy (.string a) (.string b) = some (.bool (decide (¬ a = b))) :=
 lK rfl rfl (zV a b) (by
  have : decide (¬ a = b) = !(a.toList == b.toList) := by rw [a1W]; simp
  rw [this]; rfl) rfl (by simp) (by simp) (by intro _ _ _ h; cases h)
theorem a6r (t t2 : TypeId) (cx cy : Bool) (a b : ByteArray) (h : a.size + b.size < 9223372036854775808) : kP P .add t t2 cx cy (.string a) (.string b) = some (.string (a ++ b)) :=
 lK rfl rfl (zV a b) (by
  simp only [binOp, Op.stringOp]
  rw [if_neg]
  ·rfl
  ·have : IntKind.i64.max = 9223372036854775807 := by decide
   rw [this]; omega) rfl (by simp) (by simp) (by intro _ _ _ h; cases h)
end
theorem b6H {t : TypeId} (s : ByteArray) (ht : nZ P t = true) : zE P H t (.string s) = some (.int .i64 s.size) := by
 unfold nZ at ht
 unfold zE
 split at ht
 ·rename_i h; rw [h]; simp [wY, goInt]
 ·cases ht
def pC (P : Program) (t : TypeId) (x i : Value) : Option Value := (opD P ⟨none, .index t (.const x) (.const i), t, "", #[], none⟩ [] .nil).map (·.1)
theorem b3G (d ty pos af g) (t : TypeId) (x i : Operand) (l : List Value) (K : Value → Heap → Prop) :
 lY P ⟨d, .index t x i, ty, pos, af, g⟩ l H K = jI x l fun x => jI i l fun i => jP (pC P t x i) fun v => K v H := by
 have h : opD P ⟨d, .index t x i, ty, pos, af, g⟩ l H = (pC P t (ev l x) (ev l i)).map fun v => (v, H) := by
  have hp := mV (P := P) ⟨d, .index t x i, ty, pos, af, g⟩ ⟨none, .index t (.const (ev l x)) (.const (ev l i)), t, "", #[], none⟩ l [] H rfl rfl
  simp only [opD, pC]
  exact hp
 have h2 : jZ ((pC P t (ev l x) (ev l i)).map fun v => (v, H)) K = jP (pC P t (ev l x) (ev l i)) fun v => K v H := by cases pC P t (ev l x) (ev l i) <;> rfl
 simp only [lY, h, jI, Op.operands, h2]
 simp [and_assoc]
def nW (s : ByteArray) (i : Nat) : Nat := (s.data.toList.getD i 0).toNat
theorem b0d {t : TypeId} (s : ByteArray) (k : IntKind) (i : Int) (ht : nZ P t = true) (h0 : 0 ≤ i) (h1 : i < s.size) : pC P t (.string s) (.int k i) = some (.int .u8 (nW s i.toNat)) := by
 have hu : P.underlying t = some .string := by
  unfold nZ at ht
  split at ht
  ·rename_i h; exact h
  ·cases ht
 have hr : iL P (Instr.index t (.string s) (.int k i)) = some (.int .u8 (nW s i.toNat)) := by
  unfold Instr.index
  rw [iJ]
  have e1 : iL P (asIntOf (.int k i)) = some (k, i) := rfl
  rw [e1, cU]
  simp only [iJ, jS hu, cU]
  rw [if_pos h0]
  have hlt : i.toNat < s.size := by omega
  have hb : s[i.toNat]? = some s[i.toNat] := by simp [getElem?_pos, hlt]
  simp only [hb]
  rw [kM]
  congr 3
  unfold nW
  rw [cX]
  have hl : i.toNat < s.data.toList.length := by simpa using hlt
  rw [dh hl]
  rfl
 have hpl : kL P ⟨none, .index t (.const (.string s)) (.const (.int k i)), t, "", #[], none⟩ [] .nil = some (.int .u8 (nW s i.toNat), .nil) := by
  unfold kL
  rw [if_pos (by rfl)]
  have : execOp (ev []) ⟨none, .index t (.const (.string s)) (.const (.int k i)), t, "", #[], none⟩ = (do let v ← Instr.index t (.string s) (.int k i); pure (.value v)) := rfl
  rw [this, iJ, hr, cU, kM]
  rfl
 simp only [pC, opD, hpl]
 rfl
def a0Y (P : Program) (t : TypeId) : Option IntKind := match P.underlying t with | some (.int k) => some k | _ => none
theorem a0n {t : TypeId} {k : IntKind} (h : a0Y P t = some k) : P.underlying t = some (.int k) := by
 unfold a0Y at h
 split at h
 ·rename_i h2; rw [h2]; injection h with h; rw [h]
 ·cases h
theorem b2K {s t : TypeId} {k k' : IntKind} (a : Int) (hs : a0Y P s = some k) (ht : a0Y P t = some k') : a2r P s t (.int k a) = some (.int k' (k'.wrap a)) := by
 have hr : iL P (convert s t (.int k a)) = some (.int k' (k'.wrap a)) := by
  unfold convert
  simp only [iJ, jS (a0n hs), jS (a0n ht), cU]
  rfl
 have hpl : kL P ⟨none, .convert s t (.const (.int k a)), t, "", #[], none⟩ [] .nil = some (.int k' (k'.wrap a), .nil) := by
  unfold kL
  rw [if_pos (by rfl)]
  have : execOp (ev []) ⟨none, .convert s t (.const (.int k a)), t, "", #[], none⟩ = (do let v ← convert s t (.int k a); pure (.value v)) := rfl
  rw [this, iJ, hr, cU, kM]
  rfl
 simp only [a2r, hpl]
 rfl
def a5h (P : Program) (d : Nat) (xs ys : Array Value) (fs : List Field) : Option Bool :=
 (iL P (forIn fs ((none, ()) : Option Bool × Unit) fun f _ =>
   if f.name ≠ "_" then do
    let a ← part f.type xs f.offset
    let b ← part f.type ys f.offset
    let c ← Op.equalIn d f.type a b
    if (!c) = true then pure (ForInStep.done (some false, ())) else pure (ForInStep.yield (none, ()))
   else pure (ForInStep.yield (none, ())))).bind fun x => iL P (match x.fst with | some r => pure r | none => pure true)
theorem a1q {d : Nat} {xs ys : Array Value} (g : Field → Bool) : ∀ (fs : List Field), (∀ f ∈ fs, f.name ≠ "_" ∧ iL P (part f.type xs f.offset >>= fun x => part f.type ys f.offset >>= fun y => Op.equalIn d f.type x y) = some (g f)) →
 a5h P d xs ys fs = some (fs.all g)
 | [], _ => rfl
 | f :: fs, hg => by
   obtain ⟨h1, h2⟩ := hg f (dC ..)
   have ih := a1q g fs fun f' h => hg f' (dE _ h)
   unfold a5h at ih ⊢
   rw [iJ] at h2
   simp only [List.forIn_cons, h1, ne_eq, not_false_eq_true, if_true, iJ]
   cases hx : iL P (part f.type xs f.offset) with
   | none => rw [hx] at h2; cases h2
   | some x =>
     rw [hx, cU, iJ] at h2
     cases hy : iL P (part f.type ys f.offset) with
     | none => rw [hy] at h2; cases h2
     | some y =>
       rw [hy, cU] at h2
       simp only [cU, h2]
       cases hgf : g f with
       | false =>
         simp only [gQ, if_true, kM, cU, fh, hgf, fD]
       | true =>
         simp only [Bool.not_true, dR, if_false, kM, cU, fh, hgf, gG]
         exact ih
theorem b5p {d : Nat} {t : TypeId} {fs : List Field} {xs ys : Array Value} (hu : P.underlying t = some (.struct fs.toArray)) (hst : P.stoodInHeld t = false) (g : Field → Bool)
 (hg : ∀ f ∈ fs, f.name ≠ "_" ∧ iL P (part f.type xs f.offset >>= fun x => part f.type ys f.offset >>= fun y => Op.equalIn d f.type x y) = some (g f)) : iL P (Op.equalIn (d + 1) t (.agg xs) (.agg ys)) = some (fs.all g) := by
 rw [Op.equalIn, iJ, jS hu, cU]
 have hp : iL P program = some P := rfl
 simp only [iJ, hp, cU, hst, dR, if_false, List.forIn_toArray]
 refine Eq.trans ?_ (a1q g fs hg)
 unfold a5h
 congr 1
 funext x
 cases x.fst <;> rfl
theorem a4k {op : BinOp} {t : TypeId} (ht : P.eqGuardType P.depth t = false) {x y : Operand} {a b : Array Value} : iL P (eqGuard op t x y (.agg a) (.agg b)) = some () := by
 have hp : iL P program = some P := rfl
 unfold eqGuard
 cases op <;> simp [iJ, hp, ht, kM]
theorem b5N {t t2 : TypeId} {cx cy : Bool} {xs ys : List Value} (b : Bool) (ht : P.eqGuardType P.depth t = false) (hx : xs.all iX = true) (hy : ys.all iX = true) (h : iL P (Op.equalIn (9999 + 1) t (.agg xs.toArray) (.agg ys.toArray)) = some b) :
 kP P .eql t t2 cx cy (.agg xs.toArray) (.agg ys.toArray) = some (.bool b) :=
 lK (by simp [flat, jB, kH, hx]) (by simp [flat, jB, kH, hy]) (a4k ht) (by
  have hmd : Op.maxDepth = 9999 + 1 := by decide
  simp only [binOp, iJ, Op.equal]
  rw [hmd, h, cU, kM]) rfl (by simp) (by simp) (by intro _ _ _ h; cases h)
theorem b6T {t t2 : TypeId} {cx cy : Bool} {xs ys : List Value} (b : Bool) (ht : P.eqGuardType P.depth t = false) (hx : xs.all iX = true) (hy : ys.all iX = true) (h : iL P (Op.equalIn (9999 + 1) t (.agg xs.toArray) (.agg ys.toArray)) = some b) :
 kP P .neq t t2 cx cy (.agg xs.toArray) (.agg ys.toArray) = some (.bool (!b)) :=
 lK (by simp [flat, jB, kH, hx]) (by simp [flat, jB, kH, hy]) (a4k ht) (by
  have hmd : Op.maxDepth = 9999 + 1 := by decide
  simp only [binOp, iJ, Op.equal]
  rw [hmd, h, cU, kM]) rfl (by simp) (by simp) (by intro _ _ _ h; cases h)
end
end Go.Ds
namespace Go.Ds
noncomputable section
variable {P : Program} {H : Heap}
theorem a2y (a b : ByteArray) : (a == b) = decide (b = a) := by
 obtain ⟨x⟩ := a
 obtain ⟨y⟩ := b
 rw [eo, decide_eq_true_iff]
 constructor
 ·intro h
  have e : x = y := by simpa using (show (x == y) = true from h)
  rw [e]
 ·intro h
  cases h
  show (x == x) = true
  simp
theorem a3Z (o : Option Nat) (i : Nat) : o.map (i + 1 + ·) = (o.map (· + 1)).map (i + ·) := by
 cases o with
 | none => rfl
 | some j => simp only [dI]; congr 1; omega
theorem a0E (k : ByteArray) : ∀ (es : List MapEntry) (ks : List ByteArray) (i : Nat), es.map (·.key) = ks.map Value.string →
 (Instr.findNow .string (.string k) (es.map wQ) i).map (·.map (·.1)) = some ((ks.findIdx? fun x => decide (x = k)).map (i + ·))
 | [], [], i, _ => rfl
 | [], _ :: _, _, h => by simp at h
 | _ :: _, [], _, h => by simp at h
 | e :: es, s :: ks, i, h => by
   simp only [dZ, fL] at h
   have hs : Instr.sameNow .string (.string k) e.key = some (decide (s = k)) := by
    rw [h.1]
    show some (k == s) = _
    rw [a2y]
   simp only [dZ, Instr.findNow, wQ, hs, eS]
   by_cases hd : s = k
   ·simp [hd]
   ·simp only [hd, decide_false, dR, if_false]
    have := a0E k es ks (i + 1) h.2
    rw [a3Z] at this
    exact this
theorem b1e {κ : Type} [DecidableEq κ] {enc : κ → Value} {kt : TypeId} (heq : ∀ a b, iL P (Op.equal kt (enc a) (enc b)) = some (decide (b = a))) (k : κ) : ∀ (es : List MapEntry) (ks : List κ) (i : Nat), es.map (·.key) = ks.map enc →
 (iL P (Instr.findAsking kt (enc k) (es.map wQ) i)).map (·.map (·.1)) = some ((ks.findIdx? fun x => decide (x = k)).map (i + ·))
 | [], [], i, _ => rfl
 | [], _ :: _, _, h => by simp at h
 | _ :: _, [], _, h => by simp at h
 | e :: es, s :: ks, i, h => by
   simp only [dZ, fL] at h
   simp only [dZ, Instr.findAsking, wQ, iJ, eS]
   rw [h.1, heq, cU]
   by_cases hd : s = k
   ·simp [hd, kM]
   ·simp only [hd, decide_false, dR, if_false]
    have := b1e heq k es ks (i + 1) h.2
    rw [a3Z] at this
    exact this
theorem MapK.str {t kt et : TypeId} {z : Value} (hm : xS P t = some (kt, et)) (hu : P.underlying kt = some .string) (hz : jA P et = some z) (hf : jB z = true) : MapK P t Value.string z where
 ex := by
  refine ⟨kt, et, hm, hz, hf, ?_, ?_, ?_⟩
  ·intro b k
   have : iL P (Instr.checkKey b 10000 kt (.string k)) = some () := by
    show iL P (Instr.checkKey b (9999 + 1) kt (.string k)) = some ()
    unfold Instr.checkKey
    rw [iJ, jS hu, cU]
    rfl
   simp only [yF, this]
   rfl
  ·intro k es ks h
   have h1 := a0E k es ks 0 h
   unfold rP Instr.findKey
   rw [iJ, jS hu, cU]
   cases hn : Instr.findNow .string (.string k) (es.map wQ) 0 with
   | none => rw [hn] at h1; cases h1
   | some r =>
     rw [hn] at h1
     simp only [kM]
     simpa using h1
  ·intro k
   show (k == k) = true
   rw [a2y]
   simp
theorem MapK.struct {κ : Type} [DecidableEq κ] {enc : κ → Value} {t kt et : TypeId} {z : Value} {fs : Array Field} (hm : xS P t = some (kt, et)) (hu : P.underlying kt = some (.struct fs)) (hz : jA P et = some z) (hf : jB z = true)
 (hk : ∀ b k, yF P b kt (enc k) = true) (heq : ∀ a b, iL P (Op.equal kt (enc a) (enc b)) = some (decide (b = a))) (hsb : ∀ k, Instr.sameBits 10000 (enc k) (enc k) = true) : MapK P t enc z where
 ex := by
  refine ⟨kt, et, hm, hz, hf, hk, ?_, hsb⟩
  intro k es ks h
  have h1 := b1e heq k es ks 0 h
  unfold rP Instr.findKey
  rw [iJ, jS hu, cU]
  have key : ∀ (l : List MapEntry), Instr.findNow (.struct fs) (enc k) l 0 = none ∨ l = [] := by
   intro l
   cases l with
   | nil => exact .inr rfl
   | cons e l => exact .inl rfl
  rcases key (es.map wQ) with hn | hn
  ·rw [hn]
   simpa using h1
  ·rw [hn]
   have : es = [] := by simpa using hn
   subst this
   have : ks = [] := by cases ks with | nil => rfl | cons a ks => simp at h
   subst this
   rfl
end
end Go.Ds
namespace Go.Ds
noncomputable section
variable {P : Program} {H : Heap}
def a2k (o : Option (Nat × TypeId)) (P : Program) (H : Heap) (t : TypeId) (z : Value) (K : Value → Heap → Prop) (_k : Keep K := ⟨⟩) : Prop := match o with
 | none => uL (jB z) (a5o P H t z K)
 | some _ => uL (jB z) (b0x P H t z K)
theorem a5F {o o' : Option (Nat × TypeId)} {t : TypeId} {z : Value} {K : Value → Heap → Prop} (h : o = o') : a2k o P H t z K = a2k o' P H t z K := by rw [h]
attribute [congr] a5F
theorem b4I {t : TypeId} (z : Value) (K : Value → Heap → Prop) : uS P H t (some z) K = a2k (jO P t) P H t z K := by
 cases h : jO P t with
 | none => exact a8c z K h
 | some n => exact a9W z K h
theorem a6b {t : TypeId} (z : Value) (K : Value → Heap → Prop) : a2k none P H t z K = uL (jB z) (a5o P H t z K) := rfl
theorem a7n {t : TypeId} (n : Nat × TypeId) (z : Value) (K : Value → Heap → Prop) : a2k (some n) P H t z K = uL (jB z) (b0x P H t z K) := rfl
theorem a6g {t : TypeId} {k : IntKind} (h : a0Y P t = some k) : kZ P t = false := by
 simp [kZ, a0n h]
def a3S (ks kt : Option IntKind) (P : Program) (s t : TypeId) (H : Heap) (k : IntKind) (a : Int) (K : Value → Heap → Prop) (_k : Keep K := ⟨⟩) : Prop := match ks, kt with
 | some k0, some k' => if k0 = k then K (.int k' (k'.wrap a)) H else tH P s t H (.int k a) K
 | _, _ => tH P s t H (.int k a) K
theorem a6J {ks ks' kt kt' : Option IntKind} {s t : TypeId} {k : IntKind} {a : Int} {K : Value → Heap → Prop} (h : ks = ks') (h2 : kt = kt') : a3S ks kt P s t H k a K = a3S ks' kt' P s t H k a K := by rw [h, h2]
attribute [congr] a6J
theorem b8o {s t : TypeId} (k : IntKind) (a : Int) (K : Value → Heap → Prop) : tH P s t H (.int k a) K = a3S (a0Y P s) (a0Y P t) P s t H k a K := by
 unfold a3S
 split
 ·rename_i k0 k' hs ht
  split
  ·rename_i hk
   subst hk
   rw [b3j k0 a K (a6g ht), b2K a hs ht]
   rfl
  ·rfl
 ·rfl
theorem b1U {s t : TypeId} (k k' : IntKind) (a : Int) (K : Value → Heap → Prop) : a3S (some k) (some k') P s t H k a K = nV (.int k' (k'.wrap a)) fun v => K v H := by simp [a3S, nV]
def c2C (b : Bool) (P : Program) (H : Heap) (t : TypeId) (v : Value) : Option Value := match b with
 | true => (match v with | .string s => some (.int .i64 s.size) | _ => zE P H t v)
 | false => zE P H t v
theorem c2u (t : TypeId) (v : Value) : a8W none P H t v = c2C (nZ P t) P H t v := by
 unfold c2C
 split
 ·rename_i h
  split
  ·exact b6H _ h
  ·rfl
 ·rfl
theorem b5g (t : TypeId) (s : ByteArray) : c2C true P H t (.string s) = some (.int .i64 s.size) := rfl
def a2K (b : Bool) (P : Program) (t : TypeId) (x i : Value) : Option Value := match b, x, i with
 | true, .string s, .int k i => if 0 ≤ i ∧ i < s.size then some (.int .u8 (nW s i.toNat)) else pC P t (.string s) (.int k i)
 | _, x, i => pC P t x i
theorem a6k (t : TypeId) (x i : Value) : pC P t x i = a2K (nZ P t) P t x i := by
 unfold a2K
 split
 ·rename_i h
  split
  ·rename_i h2; exact b0d _ _ _ h h2.1 h2.2
  ·rfl
 ·rfl
theorem a9i (t : TypeId) (s : ByteArray) (k : IntKind) (i : Int) (h0 : 0 ≤ i) (h1 : i < s.size) : a2K true P t (.string s) (.int k i) = some (.int .u8 (nW s i.toNat)) := by
 simp [a2K, h0, h1]
theorem OC : (∀ k n, oneCell (.int k n) = true) ∧ (∀ b, oneCell (.bool b) = true) ∧ (∀ s, oneCell (.string s) = true) ∧ (∀ a, oneCell (.pointer a) = true) ∧ (∀ a n c, oneCell (.slice a n c) = true) ∧ (∀ r, oneCell (.map r) = true) ∧ (∀ f a b, oneCell (.func f a b) = true) ∧ oneCell .nilFunc = true :=
 ⟨fun _ _ => rfl, fun _ => rfl, fun _ => rfl, fun _ => rfl, fun _ _ _ => rfl, fun _ => rfl, fun _ _ _ => rfl, rfl⟩
theorem c4s (o : Option Bool) : (o.map Value.bool).getD (.bool false) = .bool (o.getD false) := by cases o <;> rfl
theorem c5d (k : IntKind) (o : Option Int) : (o.map (Value.int k)).getD (.int k 0) = .int k (o.getD 0) := by cases o <;> rfl
theorem b8K (v : Value) (b : Bool) : pairV false v b = v := rfl
theorem b7J (v : Value) (b : Bool) : pairV true v b = .tuple #[v, .bool b] := rfl
theorem b6J (t : Tmp) : lC (.tmp t) = false := rfl
theorem a8V (v : Value) : lC (.const v) = true := rfl
theorem b5k (s : ByteArray) : flat (.string s) = true := rfl
theorem b1W (s : ByteArray) : jB (.string s) = true := rfl
theorem b0C (s : ByteArray) : iX (.string s) = true := rfl
theorem a7I (s : ByteArray) : jC (.string s) = true := rfl
theorem b4s (k : IntKind) (n : Int) : pO (.int k n) = true := rfl
theorem b3r (b : Bool) : pO (.bool b) = true := rfl
theorem b6S (s : ByteArray) : pO (.string s) = true := rfl
theorem a3F {c b : Bool} {p q : Prop} (h1 : c = true → rU (.bool true) b p q) (h2 : c = false → rU (.bool false) b p q) : rU (.bool c) b p q := by
 cases c
 ·exact h2 rfl
 ·exact h1 rfl
theorem St.pick {H0 : Base} {os os' : List Ob} (hS : St P H0 H os) (idx : List Nat) (hn : idx.Nodup) (h : idx.map (os[·]?) = os'.map some) : St P H0 H os' := by
 have hmem : ∀ o ∈ os', o ∈ os := by
  intro o ho
  have : some o ∈ idx.map (os[·]?) := by rw [h]; exact fW ho
  obtain ⟨i, _, hi⟩ := dx.1 this
  exact dK hi
 refine ⟨hS.len, hS.old, fun o ho => hS.own o (hmem o ho), fun o ho => hS.new o (hmem o ho), ?_⟩
 have hpw := ek.1 hS.sep
 rw [ek]
 intro i j hi hj hij
 have hl : idx.length = os'.length := by simpa using congrArg List.length h
 have key : ∀ i (hi : i < os'.length), ∃ hk : idx[i]'(by omega) < os.length, os[idx[i]'(by omega)] = os'[i] := by
  intro i hi
  have h1 : (idx.map (os[·]?))[i]? = (os'.map some)[i]? := by rw [h]
  rw [eF, eF, dh (by omega), dh hi] at h1
  simp only [dI, dz] at h1
  exact dm.1 h1
 obtain ⟨h1, e1⟩ := key i hi
 obtain ⟨h2, e2⟩ := key j hj
 have hne : idx[i]'(by omega) ≠ idx[j]'(by omega) := by
  have := ek.1 hn i j (by omega) (by omega) hij
  exact this
 rcases fH hne with hh | hh
 ·have := hpw _ _ h1 h2 hh
  rw [e1, e2] at this
  exact this
 ·have := hpw _ _ h2 h1 hh
  rw [e1, e2] at this
  intro B hb hb'
  exact this B hb' hb
theorem St.frame {H1 : Heap} {H0 : Base} {ls rest ls' : List Ob} (hS : St P H0 H (ls ++ rest)) (h1 : St P ⟨H, rH ls⟩ H1 ls') : St P H0 H1 (ls' ++ rest) := by
 have hls : St P H0 H ls := hS.sub (List.sublist_append_left ..)
 have h2 := hls.bz h1
 have hsep := fC.1 hS.sep
 have hkeep : ∀ o ∈ rest, ∀ B, kJ o.v = some B → iR H1 B = iR H B := by
  intro o ho B hB
  have hlt := (hS.own o (gn _ ho)).lt hB
  exact h1.old B hlt fun ⟨x, hx, hxb⟩ => hsep.2.2 x hx o ho B hxb hB
 refine ⟨h2.len, h2.old, ?_, ?_, ?_⟩
 ·intro o ho
  rcases dD.1 ho with ho | ho
  ·exact h2.own o ho
  ·exact (hS.own o (gn _ ho)).ab (hkeep o ho)
 ·intro o ho B hB
  rcases dD.1 ho with ho | ho
  ·exact h2.new o ho B hB
  ·exact hS.new o (gn _ ho) B hB
 ·rw [fC]
  refine ⟨h2.sep, hsep.2.1, ?_⟩
  intro x hx y hy B hb hb'
  rcases h1.new x hx B hb with hh | ⟨z, hz, hzb⟩
  ·have := (hS.own y (gn _ hy)).lt hb'
   have hh : H.length ≤ B := hh
   omega
  ·exact hsep.2.2 z hz y hy B hzb hb'
theorem b8y (t : TypeId) (k : IntKind) (n : Int) : unV P .neg t (.int k n) = some (.int k (k.wrap (0 - n))) := rfl
theorem b2u (ops : Array Oper) (d : Option Tmp) (op : Op) (ty : TypeId) (pos : String) (af : Array Edge) (j : Nat) (b : Bool) (l : List Value) (H' : Heap) (v : Value) :
 rdW P ops (some ⟨d, op, ty, pos, af, some (j, b)⟩) (some (l, H', v)) H = tV (yB ops j) l b (lY P ⟨d, op, ty, pos, af, some (j, b)⟩ l H fun v' _ => v' = v) True := by
 rw [← tF ops l d op ty pos af]
 unfold rdW
 split
 ·rename_i h1 h2
  cases h1; cases h2
  split
  ·rename_i h; simp [h]
  ·rename_i h; simp [h]
 ·rename_i h
  exact (h _ _ _ _ rfl rfl).elim
theorem b3C (t t2 : TypeId) (cx cy : Bool) (k : IntKind) (a b : Int) (K : Value → Prop) : kS P .and t t2 cx cy (.int k a) (.int k b) K = jP (kP P .and t t2 cx cy (.int k a) (.int k b)) K := by
 have h : (if k = k then mI .and k a b else none) = none := by split <;> rfl
 unfold kS; dsimp only
 rw [h]
theorem b7d (t t2 : TypeId) (cx cy : Bool) (k : IntKind) (a b : Int) (K : Value → Prop) : kS P .or t t2 cx cy (.int k a) (.int k b) K = jP (kP P .or t t2 cx cy (.int k a) (.int k b)) K := by
 have h : (if k = k then mI .or k a b else none) = none := by split <;> rfl
 unfold kS; dsimp only
 rw [h]
theorem b2Q (t t2 : TypeId) (cx cy : Bool) (k : IntKind) (a b : Int) (K : Value → Prop) : kS P .xor t t2 cx cy (.int k a) (.int k b) K = jP (kP P .xor t t2 cx cy (.int k a) (.int k b)) K := by
 have h : (if k = k then mI .xor k a b else none) = none := by split <;> rfl
 unfold kS; dsimp only
 rw [h]
theorem a5z (t t2 : TypeId) (cx cy : Bool) (k : IntKind) (a b : Int) (K : Value → Prop) : kS P .andNot t t2 cx cy (.int k a) (.int k b) K = jP (kP P .andNot t t2 cx cy (.int k a) (.int k b)) K := by
 have h : (if k = k then mI .andNot k a b else none) = none := by split <;> rfl
 unfold kS; dsimp only
 rw [h]
theorem b2j (t t2 : TypeId) (cx cy : Bool) (k k' : IntKind) (a b : Int) (K : Value → Prop) : kS P .shl t t2 cx cy (.int k a) (.int k' b) K = jP (kP P .shl t t2 cx cy (.int k a) (.int k' b)) K := by
 have h : (if k = k' then mI .shl k a b else none) = none := by split <;> rfl
 unfold kS; dsimp only
 rw [h]
theorem b3z (t t2 : TypeId) (cx cy : Bool) (k k' : IntKind) (a b : Int) (K : Value → Prop) : kS P .shr t t2 cx cy (.int k a) (.int k' b) K = jP (kP P .shr t t2 cx cy (.int k a) (.int k' b)) K := by
 have h : (if k = k' then mI .shr k a b else none) = none := by split <;> rfl
 unfold kS; dsimp only
 rw [h]
theorem b2Z (op : BinOp) (t t2 : TypeId) (cx cy : Bool) (a b : ByteArray) (K : Value → Prop) : kS P op t t2 cx cy (.string a) (.string b) K = jP (kP P op t t2 cx cy (.string a) (.string b)) K := rfl
theorem b2m (op : BinOp) (t t2 : TypeId) (cx cy : Bool) (a b : Array Value) (K : Value → Prop) : kS P op t t2 cx cy (.agg a) (.agg b) K = jP (kP P op t t2 cx cy (.agg a) (.agg b)) K := rfl
theorem b2e (op : BinOp) (t t2 : TypeId) (cx cy : Bool) (a b : Bool) (K : Value → Prop) : kS P op t t2 cx cy (.bool a) (.bool b) K = jP (kP P op t t2 cx cy (.bool a) (.bool b)) K := rfl
theorem b4K (n : Int) (h1 : -9223372036854775808 ≤ n) (h2 : n < 9223372036854775808) : IntKind.wrap .i64 n = n := by
 show (if (true && decide (n % 18446744073709551616 ≥ 9223372036854775808)) = true then n % 18446744073709551616 - 18446744073709551616 else n % 18446744073709551616) = n
 simp only [gG, decide_eq_true_eq]
 omega
theorem b8u (n : Int) (h1 : -128 ≤ n) (h2 : n < 128) : IntKind.wrap .i8 n = n := by
 show (if (true && decide (n % 256 ≥ 128)) = true then n % 256 - 256 else n % 256) = n
 simp only [gG, decide_eq_true_eq]
 omega
theorem pR (n : Int) (h1 : 0 ≤ n) (h2 : n < 18446744073709551616) : IntKind.wrap .u64 n = n := by
 show (if (false && decide (n % 18446744073709551616 ≥ 9223372036854775808)) = true then n % 18446744073709551616 - 18446744073709551616 else n % 18446744073709551616) = n
 simp only [fD]
 rw [if_neg (by simp)]
 omega
theorem b5y (n : Int) (h1 : 0 ≤ n) (h2 : n < 4294967296) : IntKind.wrap .u32 n = n := by
 show (if (false && decide (n % 4294967296 ≥ 2147483648)) = true then n % 4294967296 - 4294967296 else n % 4294967296) = n
 simp only [fD]
 rw [if_neg (by simp)]
 omega
theorem b7b (n : Int) (h1 : 0 ≤ n) (h2 : n < 65536) : IntKind.wrap .u16 n = n := by
 show (if (false && decide (n % 65536 ≥ 32768)) = true then n % 65536 - 65536 else n % 65536) = n
 simp only [fD]
 rw [if_neg (by simp)]
 omega
theorem b8p (n : Int) (h1 : 0 ≤ n) (h2 : n < 256) : IntKind.wrap .u8 n = n := by
 show (if (false && decide (n % 256 ≥ 128)) = true then n % 256 - 256 else n % 256) = n
 simp only [fD]
 rw [if_neg (by simp)]
 omega
end
end Go.Ds
namespace Go.Ds
noncomputable section
variable {P : Program}
def a0d (P : Program) (t : TypeId) : List Field := match P.underlying t with | some (.struct fs) => fs.toList | _ => []
def eqC : Value → Value → Bool
 | .int _ a, .int _ b => a == b
 | .bool a, .bool b => a == b
 | .string a, .string b => decide (a = b)
 | _, _ => false
def okC (P : Program) (t : TypeId) (x y : Value) : Bool := match P.underlying t with
 | some (.int _) => (match x, y with | .int k _, .int k' _ => decide (k = k') | _, _ => false)
 | some .bool => (match x, y with | .bool _, .bool _ => true | _, _ => false)
 | some .string => (match x, y with | .string _, .string _ => true | _, _ => false)
 | _ => false
theorem eq1 {t : TypeId} {x y : Value} (d : Nat) (h : okC P t x y = true) : iL P (Op.equalIn (d + 1) t x y) = some (eqC x y) := by
 unfold okC at h
 split at h
 ·rename_i k0 hu
  split at h
  ·rename_i k a k' b
   have hk : k = k' := by simpa using h
   subst hk
   rw [Op.equalIn, iJ, jS hu, cU]
   simp only [if_true]
   rfl
  ·cases h
 ·rename_i hu
  split at h
  ·rw [Op.equalIn, iJ, jS hu, cU]; rfl
  ·cases h
 ·rename_i hu
  split at h
  ·rename_i a b
   rw [Op.equalIn, iJ, jS hu, cU]
   show some (a == b) = some (decide (a = b))
   rw [a2y]
   congr 1
   simp [eq_comm]
  ·cases h
 ·cases h
theorem c0l {t : TypeId} {x y v : Value} {cs : Array Value} {off : Nat} (h : okC P t x y = true) (hc : cs[off]? = some v) : iL P (part t cs off) = some v := by
 have ha : iL P (isAgg t) = some false := by
  unfold isAgg
  unfold okC at h
  split at h
  ·rename_i hu; rw [iJ, jS hu, cU]; rfl
  ·rename_i hu; rw [iJ, jS hu, cU]; rfl
  ·rename_i hu; rw [iJ, jS hu, cU]; rfl
  ·cases h
 unfold part
 rw [iJ, ha, cU]
 simp only [dR, if_false, hc]
 rfl
theorem a2z {t : TypeId} {xs ys : List Value} (d : Nat) (hu : P.underlying t = some (.struct (a0d P t).toArray)) (hst : P.stoodInHeld t = false)
 (hf : ((a0d P t).map fun f => (f.name != "_", f.offset)) = (List.range xs.length).map fun j => (true, j)) (hy : ys.length = xs.length)
 (hok : ((a0d P t).all fun f => okC P f.type (xs.getD f.offset undef) (ys.getD f.offset undef)) = true) :
 iL P (Op.equalIn (d + 2) t (.agg xs.toArray) (.agg ys.toArray)) = some ((List.range xs.length).all fun j => eqC (xs.getD j undef) (ys.getD j undef)) := by
 rw [dj] at hok
 have hmem : ∀ f ∈ a0d P t, (f.name != "_") = true ∧ f.offset < xs.length := fun f hf' => by
  have : (f.name != "_", f.offset) ∈ (List.range xs.length).map fun j => (true, j) := by rw [← hf]; exact fW hf'
  obtain ⟨j, hj, he⟩ := dx.1 this
  simp only [gE] at he
  exact ⟨he.1.symm, by rw [← he.2]; exact dw.1 hj⟩
 rw [b5p hu hst (fun f => eqC (xs.getD f.offset undef) (ys.getD f.offset undef)) ?_]
 ·congr 1
  have h1 : (a0d P t).all (fun f => eqC (xs.getD f.offset undef) (ys.getD f.offset undef)) = ((a0d P t).map fun f => (f.name != "_", f.offset)).all fun p => eqC (xs.getD p.2 undef) (ys.getD p.2 undef) := by
   rw [List.all_map]; rfl
  rw [h1, hf, List.all_map]
  rfl
 ·intro f hf'
  obtain ⟨h1, h2⟩ := hmem f hf'
  refine ⟨by simpa using h1, ?_⟩
  have hx : xs.toArray[f.offset]? = some (xs.getD f.offset undef) := by
   rw [eX, cX, dh h2]; rfl
  have hy' : ys.toArray[f.offset]? = some (ys.getD f.offset undef) := by
   rw [eX, cX, dh (by omega)]; rfl
  rw [iJ, c0l (hok f hf') hx, cU, iJ, c0l (hok f hf') hy', cU]
  exact eq1 d (hok f hf')
theorem xY {t t2 : TypeId} {cx cy : Bool} {xs ys : List Value} (hu : P.underlying t = some (.struct (a0d P t).toArray)) (hst : P.stoodInHeld t = false) (hg : P.eqGuardType P.depth t = false)
 (hf : ((a0d P t).map fun f => (f.name != "_", f.offset)) = (List.range xs.length).map fun j => (true, j)) (hy : ys.length = xs.length)
 (hok : ((a0d P t).all fun f => okC P f.type (xs.getD f.offset undef) (ys.getD f.offset undef)) = true) (hx : xs.all iX = true) (hys : ys.all iX = true) :
 kP P .eql t t2 cx cy (.agg xs.toArray) (.agg ys.toArray) = some (.bool ((List.range xs.length).all fun j => eqC (xs.getD j undef) (ys.getD j undef))) ∧
 kP P .neq t t2 cx cy (.agg xs.toArray) (.agg ys.toArray) = some (.bool (!((List.range xs.length).all fun j => eqC (xs.getD j undef) (ys.getD j undef)))) :=
 ⟨b5N _ hg hx hys (a2z 9998 hu hst hf hy hok), b6T _ hg hx hys (a2z 9998 hu hst hf hy hok)⟩
theorem c0O {t : TypeId} {k : IntKind} (hu : P.underlying t = some (.struct (a0d P t).toArray)) (hst : P.stoodInHeld t = false)
 (hf : ((a0d P t).map fun f => (f.name != "_", f.offset)) = (List.range 2).map fun j => (true, j))
 (hok : ∀ a b c d : Int, ((a0d P t).all fun f => okC P f.type ([Value.int k a, .int k b].getD f.offset undef) ([Value.int k c, .int k d].getD f.offset undef)) = true) (a b : Int × Int) :
 iL P (Op.equal t (.agg #[.int k a.1, .int k a.2]) (.agg #[.int k b.1, .int k b.2])) = some (decide (b = a)) := by
 have hmd : Op.maxDepth = 9998 + 2 := by decide
 unfold Op.equal
 rw [hmd, a2z (xs := [.int k a.1, .int k a.2]) (ys := [.int k b.1, .int k b.2]) 9998 hu hst hf rfl (hok _ _ _ _)]
 congr 1
 show ((a.1 == b.1) && ((a.2 == b.2) && true)) = _
 rw [eo]
 simp only [fi, cT, beq_iff_eq, decide_eq_true_eq, Prod.ext_iff]
 constructor
 ·rintro ⟨h1, h2⟩; exact ⟨h1.symm, h2.symm⟩
 ·rintro ⟨h1, h2⟩; exact ⟨h1.symm, h2.symm⟩
theorem c1q {k : IntKind} (a : Int × Int) : Instr.sameBits 10000 (.agg #[.int k a.1, .int k a.2]) (.agg #[.int k a.1, .int k a.2]) = true := by
 show ((2 : Nat) == 2 && ([(Value.int k a.1, Value.int k a.1), (Value.int k a.2, Value.int k a.2)]).all fun (x, y) => Instr.sameBits 9999 x y) = true
 have h : ∀ n, Instr.sameBits 9999 (.int k n) (.int k n) = true := fun n => by
  show (k == k && n == n) = true
  cases k <;> simp <;> rfl
 simp [h]
section
variable {H : Heap} {α : Type} {n : Nat} {cel : α → List Value} {v : Value} {xs : List α}
theorem Sl.aU (h : Sl n cel H v xs) (o : Oper) (l : List Value) (H' : Heap) (k : IntKind) (a : Int) (K : Value → Heap → Prop) (h0 : 0 < xs.length) (h1 : 0 ≤ a) (h2 : a ≤ xs.length) :
 oZ P o l H' (some n) v none (some (.int k a)) K = nV (qL v n 0 a.toNat) fun v => K v H' := by
 obtain ⟨m, rfl⟩ : ∃ m, n = m + 1 := ⟨n - 1, by have := h.pos; omega⟩
 exact h.rd.aU (iM h.hc xs) o l H' k a K h0 h1 h2
theorem Sl.aT (h : Sl n cel H v xs) (o : Oper) (l : List Value) (H' : Heap) (k : IntKind) (a : Int) (K : Value → Heap → Prop) (h0 : 0 < xs.length) (h1 : 0 ≤ a) (h2 : a ≤ xs.length) :
 oZ P o l H' (some n) v (some (.int k a)) none K = nV (qL v n a.toNat (xs.length - a).toNat) fun v => K v H' := by
 obtain ⟨m, rfl⟩ : ∃ m, n = m + 1 := ⟨n - 1, by have := h.pos; omega⟩
 rw [h.rd.aT (iM h.hc xs) o l H' k a K h0 h1 h2]
 congr 2
 omega
theorem Sl.sub (h : Sl n cel H v xs) (lo k : Nat) (hk : lo + k ≤ xs.length) (h0 : 0 < xs.length) : Sl n cel H (qL v n lo k) ((xs.drop lo).take k) := by
 refine ⟨?_, h.hc, h.pos⟩
 have hne : xs.flatMap cel ≠ [] := fun e => by
  have := iM h.hc xs
  rw [e, eG] at this
  have hp := ic h0 h.pos
  omega
 have := h.rd.sub lo k (by rw [iM h.hc, ← fc]; exact dG _ hk) hne
 rw [sN h.hc, a2L h.hc] at this
 exact this
theorem Sl.cA (h : Sl n cel H v xs) (k : Nat) (hk : k ≤ xs.length) (h0 : 0 < xs.length) : Sl n cel H (qL v n 0 k) (xs.take k) := by
 simpa using h.sub 0 k (by omega) h0
theorem Sl.cB (h : Sl n cel H v xs) (lo : Nat) (hk : lo ≤ xs.length) (h0 : 0 < xs.length) : Sl n cel H (qL v n lo (xs.length - lo)) (xs.drop lo) := by
 have := h.sub lo (xs.length - lo) (by omega) h0
 rwa [List.take_of_length_le (by simp)] at this
end
def b0e (P : Program) (ts : Array TypeId) (ty : TypeId) (cx cy : Bool) (x y : Value) : Option Value := (kL P ⟨none, .call { callee := .builtin .max, args := #[oO cx 0 x, oO cy 1 y], argTypes := ts }, ty, "", #[], none⟩ [x, y] .nil).map (·.1)
theorem b8a (d : Option Tmp) (ty : TypeId) (pos : String) (af : Array Edge) (g : Option (Nat × Bool)) (ts : Array TypeId) (x y : Operand) (l : List Value) (H : Heap) (K : Value → Heap → Prop) :
 lY P ⟨d, .call { callee := .builtin .max, args := #[x, y], argTypes := ts }, ty, pos, af, g⟩ l H K = jI x l fun x' => jI y l fun y' => jP (b0e P ts ty (lC x) (lC y) x' y') fun v => K v H := by
 have h : opD P ⟨d, .call { callee := .builtin .max, args := #[x, y], argTypes := ts }, ty, pos, af, g⟩ l H = (b0e P ts ty (lC x) (lC y) (ev l x) (ev l y)).map fun v => (v, H) :=
  mV (P := P) ⟨d, .call { callee := .builtin .max, args := #[x, y], argTypes := ts }, ty, pos, af, g⟩ ⟨none, .call { callee := .builtin .max, args := #[oO (lC x) 0 (ev l x), oO (lC y) 1 (ev l y)], argTypes := ts }, ty, "", #[], none⟩ l [ev l x, ev l y] H
   (by cases x <;> cases y <;> rfl) (by cases x <;> cases y <;> kernel_rfl)
 have h2 : jZ ((b0e P ts ty (lC x) (lC y) (ev l x) (ev l y)).map fun v => (v, H)) K = jP (b0e P ts ty (lC x) (lC y) (ev l x) (ev l y)) fun v => K v H := by cases b0e P ts ty (lC x) (lC y) (ev l x) (ev l y) <;> rfl
 simp only [lY, h, jI, Op.operands, Call.operands, h2]
 simp [and_assoc]
theorem b4G (ts : Array TypeId) (ty : TypeId) (cx cy : Bool) (a b : Int) : b0e P ts ty cx cy (.int .i64 a) (.int .i64 b) = some (.int .i64 (max a b)) := by
 have h : b0e P ts ty cx cy (.int .i64 a) (.int .i64 b) = some (.int .i64 (if b > a then b else a)) := by cases cx <;> cases cy <;> kernel_rfl
 rw [h]
 congr 2
 split <;> omega
def a8r (P : Program) (ts : Array TypeId) (ty : TypeId) (cx cy : Bool) (x y : Value) : Option Value := (kL P ⟨none, .call { callee := .builtin .min, args := #[oO cx 0 x, oO cy 1 y], argTypes := ts }, ty, "", #[], none⟩ [x, y] .nil).map (·.1)
theorem b7U (d : Option Tmp) (ty : TypeId) (pos : String) (af : Array Edge) (g : Option (Nat × Bool)) (ts : Array TypeId) (x y : Operand) (l : List Value) (H : Heap) (K : Value → Heap → Prop) :
 lY P ⟨d, .call { callee := .builtin .min, args := #[x, y], argTypes := ts }, ty, pos, af, g⟩ l H K = jI x l fun x' => jI y l fun y' => jP (a8r P ts ty (lC x) (lC y) x' y') fun v => K v H := by
 have h : opD P ⟨d, .call { callee := .builtin .min, args := #[x, y], argTypes := ts }, ty, pos, af, g⟩ l H = (a8r P ts ty (lC x) (lC y) (ev l x) (ev l y)).map fun v => (v, H) :=
  mV (P := P) ⟨d, .call { callee := .builtin .min, args := #[x, y], argTypes := ts }, ty, pos, af, g⟩ ⟨none, .call { callee := .builtin .min, args := #[oO (lC x) 0 (ev l x), oO (lC y) 1 (ev l y)], argTypes := ts }, ty, "", #[], none⟩ l [ev l x, ev l y] H
   (by cases x <;> cases y <;> rfl) (by cases x <;> cases y <;> kernel_rfl)
 have h2 : jZ ((a8r P ts ty (lC x) (lC y) (ev l x) (ev l y)).map fun v => (v, H)) K = jP (a8r P ts ty (lC x) (lC y) (ev l x) (ev l y)) fun v => K v H := by cases a8r P ts ty (lC x) (lC y) (ev l x) (ev l y) <;> rfl
 simp only [lY, h, jI, Op.operands, Call.operands, h2]
 simp [and_assoc]
theorem b6r (ts : Array TypeId) (ty : TypeId) (cx cy : Bool) (a b : Int) : a8r P ts ty cx cy (.int .i64 a) (.int .i64 b) = some (.int .i64 (min a b)) := by
 have h : a8r P ts ty cx cy (.int .i64 a) (.int .i64 b) = some (.int .i64 (if b < a then b else a)) := by cases cx <;> cases cy <;> kernel_rfl
 rw [h]
 congr 2
 split <;> omega
section
variable {H : Heap}
def Var (H : Heap) (A n : Nat) (cs : List Value) : Prop := n = cs.length ∧ ∃ ty rw lo ver, iR H A = some (.cells cs ty rw lo ver) ∧ lo ≤ cs.length
theorem Var.ab {H' : Heap} {A n : Nat} {cs : List Value} (h : Var H A n cs) (hk : ∀ B, B < H.length → iR H' B = iR H B) : Var H' A n cs := by
 obtain ⟨h1, ty, rw, lo, ver, h2, h3⟩ := h
 exact ⟨h1, ty, rw, lo, ver, by rw [hk A (jJ h2), h2], h3⟩
theorem Var.ld {A n : Nat} {cs : List Value} (h : Var H A n cs) (s : Option Nat) (off : Nat) : pM (some false) s H (ptr A off n) = cs[off]? := by
 obtain ⟨rfl, ty, rw, lo, ver, h1, h2⟩ := h
 simp only [pM, jD, h1]
 by_cases h : off < cs.length
 ·rw [if_pos (by simp; omega)]
  simp only [cU]
  rw [dN (by omega), dB]
  simp
 ·rw [if_neg (by simp; omega), dW (by omega)]
  rfl
theorem Var.ag {A n : Nat} {cs : List Value} (h : Var H A n cs) (m off : Nat) : pM (some true) (some m) H (ptr A off n) = if off + m ≤ cs.length then some (.agg ((cs.drop off).take m).toArray) else none := by
 obtain ⟨rfl, ty, rw, lo, ver, h1, h2⟩ := h
 simp only [pM, jD, h1, cU]
 by_cases h : off + m ≤ cs.length
 ·rw [if_pos (by simp; omega), if_pos h]
  rfl
 ·rw [if_neg (by simp; omega), if_neg h]
  rfl
theorem St.var {P : Program} {H0 : Base} {os : List Ob} (hS : St P H0 H os) (i : Nat) {A n : Nat} {cs : List Value} (ho : os[i]? = some ⟨ptr A 0 n, 0, cs⟩) : Var H A n cs := by
 obtain ⟨h1, ty, lo, ver, h2, h3⟩ := hS.cell i ho
 exact ⟨h1, ty, true, lo, ver, h2, h3⟩
theorem St.va {H0 : Heap} {os : List Ob} (hS : St P H0 H os) {A n : Nat} {cs : List Value} (h : Var H0 A n cs) : Var H A n cs := h.ab hS.ab
end
theorem tC {P : Program} (t t2 : TypeId) (cx cy : Bool) (u x : UInt8) : kP P .add t t2 cx cy (.string ⟨#[u]⟩) (.string ⟨#[x]⟩) = some (.string ⟨#[u, x]⟩) := by
 rw [a6r _ _ _ _ _ _ (by show 1 + 1 < 9223372036854775808; decide)]
 rfl
theorem vI {P : Program} {H : Heap} {s t : TypeId} {v : Value} {n : Int} (h : RdAt H v 1 [.int .u8 n]) (hs : kZ P s = true) (ht : nZ P t = true) (hbt : kZ P t = false) (h0 : 0 ≤ n) (h1 : n < 256) (K : Value → Heap → Prop) :
 tH P s t H v K = K (.string ⟨#[UInt8.ofNat n.toNat]⟩) H := by
 obtain ⟨m, rfl⟩ : ∃ m : Nat, n = Int.ofNat m := ⟨n.toNat, by simp [fF h0]⟩
 have hm : m < 256 := by have : (m : Int) < 256 := h1; omega
 rcases h with ⟨_, h⟩ | ⟨A, i, e, row, ty, rw, lo, ver, k, g1, g2, g3, g4, g5, g6, rfl⟩
 ·cases h
 have hk : k = 1 := by simp at g6; omega
 subst hk
 have hc : jD H A i e 1 = some [.int .u8 (Int.ofNat m)] := by
  simp only [jD, g1]
  rw [if_pos (by simp at g4 ⊢; omega)]
  exact congrArg some g5
 have hb : nE [.int .u8 (Int.ofNat m)] = some ⟨#[UInt8.ofNat m]⟩ := by simp [nE, a2P, a1c, hm]
 have hd : opD P ⟨none, .convert s t (.const (.slice (some ⟨A, i, some e⟩) 1 1)), t, "", #[], none⟩ [] H = some (.string ⟨#[UInt8.ofNat m]⟩, H) := by
  have hf : flat (.slice (some ⟨A, i, some e⟩) 1 1) = false := rfl
  simp only [opD, ev, hf, hs, ht, hc, hb, fD, dR, if_false, Bool.and_self, if_true, cU, dI]
 unfold tH
 rw [hd]
 apply propext
 constructor
 ·rintro ⟨v, H1, h2, h3⟩
  injection (cS h2) with e1 e2
  subst e1 e2
  exact h3
 ·intro h3
  exact ⟨_, _, rfl, h3⟩
theorem a5H {P : Program} {t : TypeId} {n : Nat} {elem : TypeId} {size : Nat} (ha : P.underlying t = some (.array n elem)) (hs : iD P elem = some size) (A i e : Nat) (k : IntKind) (j : Int) (h0 : 0 ≤ j) (h1 : j < n) :
 wP (iT P t) P t (ptr A i e) (.int k j) = some (ptr A (i + j.toNat * size) e) := by
 have hn : iT P t = none := by simp [iT, iG, ha]
 rw [hn]
 simp only [wP, a1L, ha, ptr, hs, cU]
 rw [if_pos (by simp [h0, h1])]
end
end Go.Ds
namespace Go.Ds
section
variable {P : Program}
def c2q (inv : List Nat) (e : Edge) : Edge := { e with on := inv.getD e.on 0 }
def xE (inv : List Nat) (o : Oper) : Oper := { o with after := o.after.map (c2q inv), guard := o.guard.map fun g => (inv.getD g.1 0, g.2) }
def kA (π inv : List Nat) (ops : Array Oper) : Array Oper := (π.map fun i => xE inv (ops.getD i default)).toArray
def b0c (π inv : List Nat) (ops : Array Oper) : Bool :=
 decide (π.length = ops.size) && decide (inv.length = ops.size) && (List.range ops.size).all (fun i => decide (π.getD i 0 < ops.size) && decide (inv.getD i 0 < ops.size) && decide (inv.getD (π.getD i 0) 0 = i) && decide (π.getD (inv.getD i 0) 0 = i)) &&
 ops.toList.all fun o => o.after.toList.all (fun e => decide (e.on < ops.size)) && (match o.guard with | some g => decide (g.1 < ops.size) | none => true)
structure Perm (π inv : List Nat) (ops : Array Oper) : Prop where
 len : π.length = ops.size
 pi : ∀ i, i < ops.size → π.getD i 0 < ops.size
 iv : ∀ i, i < ops.size → inv.getD i 0 < ops.size
 ip : ∀ i, i < ops.size → inv.getD (π.getD i 0) 0 = i
 pv : ∀ i, i < ops.size → π.getD (inv.getD i 0) 0 = i
 edge : ∀ (i : Nat) (o : Oper), ops[i]? = some o → ∀ e ∈ o.after, e.on < ops.size
 guard : ∀ (i : Nat) (o : Oper) (g : Nat × Bool), ops[i]? = some o → o.guard = some g → g.1 < ops.size
theorem b9Q {π inv : List Nat} {ops : Array Oper} (h : b0c π inv ops = true) : Perm π inv ops := by
 unfold b0c at h
 simp only [cT, decide_eq_true_eq, dj, dw] at h
 obtain ⟨⟨⟨h1, h2⟩, h3⟩, h4⟩ := h
 refine ⟨h1, fun i hi => (h3 i hi).1.1.1, fun i hi => (h3 i hi).1.1.2, fun i hi => (h3 i hi).1.2, fun i hi => (h3 i hi).2, fun i o ho e he => ?_, fun i o g ho hg => ?_⟩
 ·exact (h4 o (dK (i := i) (by simpa using ho))).1 e (by simpa using he)
 ·have := (h4 o (dK (i := i) (by simpa using ho))).2
  rw [hg] at this
  simpa using this
variable {π inv : List Nat} {ops : Array Oper}
theorem a6V (p : Nat) : (kA π inv ops)[p]? = (π[p]?).map fun i => xE inv (ops.getD i default) := by
 simp [kA]
theorem qS (D : Perm π inv ops) {p i : Nat} {o : Oper} (hp : p < ops.size) (hi : π.getD p 0 = i) (ho : ops[i]? = some o) : (kA π inv ops)[p]? = some (xE inv o) := by
 rw [a6V]
 have h1 : π[p]? = some i := by
  rw [cX] at hi
  rw [dh (by rw [D.len]; exact hp)] at hi ⊢
  simpa using hi
 rw [h1]
 simp only [dI]
 rw [dU, ho]
 rfl
theorem qD (D : Perm π inv ops) : (kA π inv ops).size = ops.size := by simp [kA, D.len]
theorem a4T (D : Perm π inv ops) (tmps : Array Value) {j : Nat} (hj : j < ops.size) : yielded (kA π inv ops) tmps (inv.getD j 0) = yielded ops tmps j := by
 have ho : ops[j]? = some ops[j] := cZ.2 ⟨hj, rfl⟩
 unfold yielded
 rw [qS D (D.iv j hj) (D.pv j hj) ho, ho]
 rfl
theorem a6N (D : Perm π inv ops) (tmps : Array Value) {i : Nat} {o : Oper} (ho : ops[i]? = some o) : Region.wanted (xE inv o) (yielded (kA π inv ops) tmps) = Region.wanted o (yielded ops tmps) := by
 unfold Region.wanted
 have e : (xE inv o).guard = o.guard.map fun g => (inv.getD g.1 0, g.2) := rfl
 rw [e]
 cases hg : o.guard with
 | none => rfl
 | some g =>
   simp only [dI]
   rw [a4T D tmps (D.guard i o g ho hg)]
theorem b9o (ro : Option Nat) (ρ : Operand → Value) (o : Oper) : (xE inv o).semAt ro ρ = o.semAt ro ρ := by
 obtain ⟨dst, op, type, pos, after, guard⟩ := o
 rfl
theorem b2r (w : World) (ρ : Operand → Value) (o : Oper) : (xE inv o).about P w ρ = o.about P w ρ := by
 obtain ⟨dst, op, type, pos, after, guard⟩ := o
 rfl
theorem b5h (F : Fence) (n : Nat) (o : Oper) (a : Act) (next : Act → World → Prop) (Q : Exit → Act → World → Prop) (r : Result Next) : (xE inv o).uponIn F n P a next Q r = o.uponIn F n P a next Q r := by
 obtain ⟨dst, op, type, pos, after, guard⟩ := o
 cases r with
 | ok x w => cases x <;> rfl
 | halt x w => cases x <;> rfl
theorem b3N (D : Perm π inv ops) (F : Fence) (n : Nat) (Q : Exit → Act → World → Prop) {i : Nat} (hi : i < ops.size) (K : Act → World → Prop) (a : Act) (w : World) :
 wpOpIn F n P (kA π inv ops) Q (inv.getD i 0) K a w = wpOpIn F n P ops Q i K a w := by
 have ho : ops[i]? = some ops[i] := cZ.2 ⟨hi, rfl⟩
 unfold wpOpIn
 rw [qS D (D.iv i hi) (D.pv i hi) ho, ho]
 simp only [a6N D a.tmps ho, Oper.wpIn, b2r, b5h, b9o]
 rfl
def c1l (inv : List Nat) (n : Nat) (listed listed' : Array Bool) : Prop := listed.size = n ∧ listed'.size = n ∧ ∀ i, i < n → listed.getD i false = listed'.getD (inv.getD i 0) false
theorem wT (D : Perm π inv ops) {listed listed' : Array Bool} (hc : c1l inv ops.size listed listed') {i : Nat} (hi : i < ops.size) :
 i ∈ Region.ready .any ops listed ↔ inv.getD i 0 ∈ Region.ready .any (kA π inv ops) listed' := by
 have ho : ops[i]? = some ops[i] := cZ.2 ⟨hi, rfl⟩
 have ho' := qS D (D.iv i hi) (D.pv i hi) ho
 have hsz := qD D
 obtain ⟨c1, c2, c3⟩ := hc
 constructor
 ·intro h
  obtain ⟨o, h1, h2, h3⟩ := oX c1 h
  rw [ho] at h1
  obtain rfl := cS h1
  refine a0a (by rw [hsz]; exact c2) ho' (by rw [← c3 i hi]; exact h2) ?_
  intro e he hb
  have he' : e ∈ (ops[i]).after.map (c2q inv) := he
  obtain ⟨e0, he0, rfl⟩ := Array.mem_map.1 he'
  have := h3 e0 he0 hb
  show listed'.getD (inv.getD e0.on 0) false = true
  rw [← c3 _ (D.edge i _ ho e0 he0)]
  exact this
 ·intro h
  obtain ⟨o, h1, h2, h3⟩ := oX (by rw [hsz]; exact c2) h
  rw [ho'] at h1
  obtain rfl := cS h1
  refine a0a c1 ho (by rw [c3 i hi]; exact h2) ?_
  intro e he hb
  have := h3 (c2q inv e) (Array.mem_map.2 ⟨e, he, rfl⟩) hb
  rw [c3 _ (D.edge i _ ho e he)]
  exact this
theorem b5Q (D : Perm π inv ops) (F : Fence) (k : Nat) {Q : Exit → Act → World → Prop} : ∀ (fuel : Nat) (listed listed' : Array Bool) (a : Act) (w : World), c1l inv ops.size listed listed' →
 wpAnyIn F k P .any (kA π inv ops) Q fuel listed' a w → wpAnyIn F k P .any ops Q fuel listed a w := by
 have hsz := qD D
 have nil1 : ∀ {listed listed' : Array Bool}, c1l inv ops.size listed listed' → (Region.ready .any ops listed = [] ↔ Region.ready .any (kA π inv ops) listed' = []) := by
  intro listed listed' hc
  constructor
  ·intro h
   cases hr : Region.ready .any (kA π inv ops) listed' with
   | nil => rfl
   | cons p r =>
     exfalso
     have hp : p ∈ Region.ready .any (kA π inv ops) listed' := by rw [hr]; exact dC ..
     obtain ⟨o, h1, _, _⟩ := oX (by rw [hsz]; exact hc.2.1) hp
     have hpn : p < ops.size := by rw [← hsz]; exact (cZ.1 h1).1
     have := (wT D hc (D.pi p hpn)).2 (by rw [D.ip p hpn]; exact hp)
     rw [h] at this
     cases this
  ·intro h
   cases hr : Region.ready .any ops listed with
   | nil => rfl
   | cons i r =>
     exfalso
     have hi : i ∈ Region.ready .any ops listed := by rw [hr]; exact dC ..
     obtain ⟨o, h1, _, _⟩ := oX hc.1 hi
     have := (wT D hc (cZ.1 h1).1).1 hi
     rw [h] at this
     cases this
 intro fuel
 induction fuel with
 | zero =>
   intro listed listed' a w hc h
   exact ⟨(nil1 hc).2 h.1, h.2⟩
 | succ fuel ih =>
   intro listed listed' a w hc h
   refine ⟨fun hn => h.1 ((nil1 hc).1 hn), fun i hi => ?_⟩
   obtain ⟨o, h1, _, _⟩ := oX hc.1 hi
   have hin := (cZ.1 h1).1
   have h2 := h.2 _ ((wT D hc hin).1 hi)
   rw [b3N D F k Q hin] at h2
   refine wpOpIn_mono (fun a' w' h3 => ih _ _ a' w' ⟨by simpa using hc.1, by simpa using hc.2.1, fun j hj => ?_⟩ h3) h2
   have e1 := sM (listed := listed) (i := i) (by rw [hc.1]; exact hin) j
   have e2 := sM (listed := listed') (i := inv.getD i 0) (by rw [hc.2.1]; exact D.iv i hin) (inv.getD j 0)
   have e3 : (inv.getD j 0 = inv.getD i 0) ↔ j = i := ⟨fun h => by rw [← D.pv j hj, h, D.pv i hin], fun h => by rw [h]⟩
   rw [eo, e1, e2, e3, hc.2.2 j hj]
end
section
variable {P : Program} {H : Heap} {π inv : List Nat} {ops : Array Oper}
theorem Sim.cC (kE : P.follows .mixedOrders = true) {id : Nat} (Dp : Perm π inv ops) {fl : Fl} (D : Draw P fl (kA π inv ops)) {T : Nat → List Value × Heap} {val : Nat → Value} (X : Text P (kA π inv ops) T val)
 (hread : ∀ i m o, (i, m) ∈ mH fl (kA π inv ops) → (kA π inv ops)[i]? = some o → Region.wanted o (iU (kA π inv ops) (T i).1) = true → ∃ H2, opD P o (T i).1 (T m).2 = some (val i, H2)) :
 Sim P (.region id ops true) (T 0).1 (T 0).2 .normal (T ops.size).1 (T ops.size).2 := by
 intro ro k B ρ w a hr hE hl hM hB
 have hsz := qD Dp
 have := a3u D X hread ro k B hr hE hM
 rw [hsz] at this
 exact wpIn_region_any kE (b5Q Dp (fe ro) k ops.size _ _ a _ ⟨by simp, by simp, fun i hi => by
  have := Dp.iv i hi
  simp only [dU, Array.getElem?_replicate, hi, this, if_true]⟩ this)
theorem a3c (D : Perm π inv ops) (l : List Value) {j : Nat} (hj : j < ops.size) : iU (kA π inv ops) l (inv.getD j 0) = iU ops l j := by
 have ho : ops[j]? = some ops[j] := cZ.2 ⟨hj, rfl⟩
 unfold iU
 rw [qS D (D.iv j hj) (D.pv j hj) ho, ho]
 rfl
theorem yK (D : Perm π inv ops) (l : List Value) {i : Nat} {o : Oper} (ho : ops[i]? = some o) : Region.wanted (xE inv o) (iU (kA π inv ops) l) = Region.wanted o (iU ops l) := by
 unfold Region.wanted
 have e : (xE inv o).guard = o.guard.map fun g => (inv.getD g.1 0, g.2) := rfl
 rw [e]
 cases hg : o.guard with
 | none => rfl
 | some g =>
   simp only [dI]
   rw [a3c D l (D.guard i o g ho hg)]
theorem b1G (o : Oper) (l : List Value) (K : Value → Heap → Prop) : lY P (xE inv o) l H K = lY P o l H K := by
 obtain ⟨dst, op, type, pos, after, guard⟩ := o
 rfl
theorem a4h (D : Perm π inv ops) : ∀ (os : List Oper) (tr : List (List Value × Heap × Value)) (l : List Value) (H : Heap) (K : List (List Value × Heap × Value) → List Value → Heap → Prop), (∀ o ∈ os, ∃ i : Nat, ops[i]? = some o) →
 mG P (kA π inv ops) (os.map (xE inv)) tr l H K = mG P ops os tr l H K
 | [], _, _, _, _, _ => rfl
 | o :: os, tr, l, H, K, h => by
   obtain ⟨i, ho⟩ := h o (by simp)
   have ih := fun tr l H => a4h D os tr l H K fun o ho => h o (by simp [ho])
   rw [dZ, mG, mG, yK D l ho]
   have e : (xE inv o).dst = o.dst := rfl
   simp only [b1G, e, ih]
def c1E (o : Option Oper) (os : List Oper) : List Oper := match o with | some o => o :: os | none => os
def sel (os : List Oper) : List Nat → List Oper
 | [] => []
 | i :: π => c1E os[i]? (sel os π)
theorem b8C (os : List Oper) : sel os [] = [] := rfl
theorem a6p (os : List Oper) (i : Nat) (π : List Nat) : sel os (i :: π) = c1E os[i]? (sel os π) := rfl
theorem a3U (o : Oper) (os : List Oper) : c1E (some o) os = o :: os := rfl
theorem b0E (os : List Oper) : ∀ (π : List Nat), (∀ i ∈ π, i < os.length) → sel os π = π.map fun i => os.toArray.getD i default
 | [], _ => rfl
 | i :: π, h => by
   have hi := h i (by simp)
   rw [a6p, b0E os π fun j hj => h j (by simp [hj]), dh hi, a3U, dZ]
   congr 1
   simp [dU, hi]
def zR (P : Program) (os : List Oper) (tr : List (List Value × Heap × Value)) (H1 : Heap) (π : List Nat) : List (Nat × Nat) → Prop
 | [] => True
 | (p, m) :: r => rdW P os.toArray (os[π.getD p 0]?) tr[p]? (trH tr[m]? H1) ∧ zR P os tr H1 π r
theorem a9t (os : List Oper) (tr) (H1 : Heap) (π : List Nat) : zR P os tr H1 π [] = True := rfl
theorem a7x (os : List Oper) (tr) (H1 : Heap) (π : List Nat) (p m : Nat) (r : List (Nat × Nat)) : zR P os tr H1 π ((p, m) :: r) = (rdW P os.toArray (os[π.getD p 0]?) tr[p]? (trH tr[m]? H1) ∧ zR P os tr H1 π r) := rfl
theorem a2I {os : List Oper} {tr} {H1 : Heap} {π : List Nat} : ∀ {tab : List (Nat × Nat)}, zR P os tr H1 π tab → ∀ x ∈ tab, rdW P os.toArray (os[π.getD x.1 0]?) tr[x.1]? (trH tr[x.2]? H1)
 | [], _, x, hx => by cases hx
 | (i, m) :: r, h, x, hx => by
   rcases dS.1 hx with rfl | hx
   ·exact h.1
   ·exact a2I h.2 x hx
theorem Wp.cg (kE : P.follows .mixedOrders = true) {id : Nat} {os : List Oper} {l : List Value} {Q : nN} (π inv : List Nat) (fl : Fl) (tab : List (Nat × Nat)) (hp : b0c π inv os.toArray = true)
 (htab : a2w P fl (kA π inv os.toArray) = some tab) (hn : uO (kA π inv os.toArray) tab = true)
 (h : mG P os.toArray (sel os π) [] l H fun tr l1 H1 => Q .normal l1 H1 ∧ zR P os tr H1 π tab) : Wp P (.region id os.toArray true) l H Q := by
 have Dp := b9Q hp
 obtain ⟨D, htb⟩ := a3s htab
 have hsz := qD Dp
 have hmem : ∀ i ∈ π, i < os.length := fun i hi => by
  obtain ⟨p, hpl, hpe⟩ := dL.1 hi
  have := Dp.pi p (by rw [← Dp.len]; exact hpl)
  rw [cX, dh hpl, eV, hpe] at this
  simpa using this
 have hsel : (sel os π).map (xE inv) = (kA π inv os.toArray).toList := by
  rw [b0E os π hmem]
  simp [kA]
 rw [← a4h Dp (sel os π) [] l H _ (fun o ho => by
  rw [b0E os π hmem, dx] at ho
  obtain ⟨i, hi, rfl⟩ := ho
  have := hmem i hi
  exact ⟨i, by simp [dU, this]⟩), hsel] at h
 obtain ⟨T, val, l', H', ext, h0, h1, h2, h3, h4, h5, h6⟩ := uH (kA π inv os.toArray).toList 0 rfl [] l H h
 have hlen : (kA π inv os.toArray).toList.length = os.toArray.size := by rw [fq, hsz]
 rw [hlen] at h1 h2 h3 h4
 have := Sim.cC kE (id := id) Dp D (T := T) (val := val) ⟨fun k hk => by rw [hsz] at hk; simpa using h4 k hk⟩ fun i m o hm ho hw => by
  rw [← htb] at hm
  have hr := a2I h6 (i, m) hm
  have hi : i < os.toArray.size := by rw [← hsz]; exact (cZ.1 ho).1
  have hpi := Dp.pi i hi
  have hoo : os.toArray[π.getD i 0]? = some (os.toArray[π.getD i 0]) := cZ.2 ⟨hpi, rfl⟩
  have hat := qS (inv := inv) Dp hi rfl hoo
  rw [ho] at hat
  have hat := cS hat
  have hoo' : os[π.getD i 0]? = some (os.toArray[π.getD i 0]) := by rw [← hoo]; simp
  simp only [eY] at hr
  rw [hoo', h3 i hi] at hr
  unfold rdW at hr
  rw [hat, yK Dp _ hoo] at hw
  have hr := hr hw
  have hno : xT o = true := by
   unfold uO at hn
   have := dj.1 hn (i, m) hm
   simpa [ho] using this
  have hTm : trH ext[m]? H' = (T m).2 ∨ os.toArray.size < m := by
   unfold trH
   by_cases hm2 : m < os.toArray.size
   ·left; rw [h3 m hm2]
   ·by_cases hm3 : m = os.toArray.size
    ·left
     rw [dW (by omega), hm3, h1]
    ·right; omega
  rcases hTm with hTm | hTm
  ·rw [hTm, ← b1G (inv := inv), ← hat] at hr
   obtain ⟨v, H2, h7, h8⟩ := b1N hno hr
   exact ⟨H2, by rw [h7, h8]⟩
  ·exfalso
   rw [htb] at hm
   have := a2d hm
   rw [hsz] at this
   omega
 rw [h0, h1] at this
 exact ⟨_, _, _, this, h5⟩
end
def RA :=
 And.intro @b7Y <| And.intro @b6o <| And.intro @b8h <| And.intro @c2L <| And.intro @c1P <| And.intro @b5E <| And.intro @b8x <| And.intro @c2x <| And.intro @b8b <| And.intro @b9F <| And.intro @b4O <| And.intro @a7t <| And.intro @b3n <| And.intro @b4l <| And.intro @b2i <| And.intro @a9j <| And.intro @a9Z <| And.intro @a6S <| And.intro @b6X <| And.intro @b0t <| And.intro @b7e <| And.intro @b6D <| And.intro @b3I <| And.intro @b3f <| And.intro @b7L <| And.intro @b2h <| And.intro @a2J <| And.intro @a3r <| And.intro @a8x <| And.intro @b4b <| And.intro @b3U <| And.intro @b9G <| And.intro @a3n <| And.intro @a3d <| And.intro @b4a <| And.intro @c1y <| And.intro @a7b <| And.intro @a7h <| And.intro @b2Y <| And.intro @b5e <| And.intro @a5u <| And.intro @a9G <| And.intro @a9N <| And.intro @a8y <| And.intro @a8S <| And.intro @a6d <| And.intro @a3o <| And.intro @a4D <| And.intro @a1U <| And.intro @b3G <| And.intro @b8a <| And.intro @b7U <| And.intro @b4t <| And.intro @a9R <| And.intro @b3P <| And.intro @b3e <| And.intro @a9b <| And.intro @a8m <| And.intro @a7r <| And.intro @a6s <| And.intro @b4X <| And.intro @b2S <| And.intro @a3m <| And.intro @b0k <| And.intro @a7A <| And.intro @a2W <| And.intro @a5R <| And.intro @b0j <| And.intro @a5W <| @b5G
def RB :=
 And.intro @b9E <| And.intro @a9n <| And.intro @a8B <| And.intro @b2D <| And.intro @a9d <| And.intro @a7O <| And.intro @a7X <| And.intro @b4I <| And.intro @a6b <| And.intro @a7n <| And.intro @b8o <| And.intro @b1U <| And.intro @a9k <| And.intro @b7Z <| And.intro @b9D <| And.intro @b7D <| And.intro @b8U <| And.intro @a8h <| And.intro @a7p <| And.intro @b9K <| And.intro @c2u <| And.intro @b5g <| And.intro @a6k <| And.intro @a9i <| And.intro @b7R <| And.intro @b8e <| And.intro @b4P <| And.intro @b3o <| And.intro @b3d <| And.intro @b2U <| And.intro @b3i <| And.intro @b3T <| And.intro @b3A <| And.intro @b1V <| And.intro @b1P <| And.intro @b1Y <| And.intro @b2L <| And.intro @b3K <| And.intro @b3C <| And.intro @b7d <| And.intro @b2Q <| And.intro @a5z <| And.intro @b2j <| And.intro @b3z <| And.intro @b2Z <| And.intro @b2m <| And.intro @b2e <| And.intro @b5D <| And.intro @b6N <| And.intro @b4Q <| And.intro @b9n <| And.intro @b7p <| And.intro @a7g <| And.intro @a8Y <| And.intro @a9w <| And.intro @b8N <| And.intro @b5x <| And.intro @a6m <| And.intro @b7g <| And.intro @b4q <| And.intro @b2W <| And.intro @a8j <| And.intro @b5k <| And.intro @b3F <| And.intro @a8A <| And.intro @b1W <| And.intro @b6E <| And.intro @b0a <| And.intro @b3L <| And.intro @b3k <| And.intro @b0r <| And.intro @b2g <| And.intro @a9H <| And.intro @b8C <| And.intro @a6p <| And.intro @a3U <| And.intro @a9t <| And.intro @a7x <| And.intro @b8r <| And.intro @b4A <| And.intro @b2u <| And.intro @b5m <| And.intro @b6Z <| And.intro @b1X <| And.intro @b4M <| And.intro @b3D <| And.intro @a4O <| And.intro @a9P <| And.intro @a7P <| And.intro @b0q <| And.intro @b0C <| And.intro @b5A <| And.intro @b4s <| And.intro @b3r <| And.intro @b6S <| And.intro @a6T <| And.intro @a5J <| And.intro @a6P <| And.intro @a6q <| And.intro @a7I <| And.intro @c4s <| And.intro @c5d <| And.intro @b8K <| And.intro @b7J <| And.intro @b4G <| And.intro @b6r <| And.intro @b6J <| And.intro @a8V <| And.intro @b8y <| And.intro @b4K <| And.intro @b8u <| And.intro @pR <| And.intro @b5y <| And.intro @b7b <| @b8p
theorem RT :
 (∀ {α : Type} (l : List α), [] ++ l = l) ∧
 (∀ {α : Type} (l : List α), l ++ [] = l) ∧
 (∀ {α : Type} {a : α} {l m : List α}, a :: l ++ m = a :: (l ++ m)) ∧
 (∀ (cs : List Value) (i : Nat) (v : Value) (vs : List Value), iY cs i (v :: vs) = iY (cs.set i v) (i + 1) vs) ∧
 (∀ (cs : List Value) (i : Nat), iY cs i [] = cs) ∧
 (∀ {α : Type} {x : α} {xs : List α} {a : α}, (x :: xs).set 0 a = a :: xs) ∧
 (∀ {α : Type} {x : α} {xs : List α} {i : Nat} {a : α}, (x :: xs).set (i + 1) a = x :: xs.set i a) ∧
 (∀ (n : Nat), 0 + n = n) ∧
 (∀ (n : Nat), n * 1 = n) ∧
 (∀ (n : Nat), n + 0 = n) :=
 ⟨@List.nil_append, @List.append_nil, @List.cons_append, @qE, @uA, @List.set_cons_zero, @List.set_cons_succ, @Nat.zero_add, @Nat.mul_one, @Nat.add_zero⟩
end Go.Ds
namespace Go.Ds
open Go.Proofs Go.Proofs.Tryz
abbrev I (n : Int) : Value := .int .i64 n
theorem sR (H : Heap) : St prog H H [] := .refl ..
theorem kE : prog.follows .mixedOrders = true := by kernel_rfl
theorem tS3 : iD prog 3 = some 1 := by kernel_rfl
theorem b8z : iD prog 26 = some 3 := by kernel_rfl
theorem c2F : iD prog 27 = some 5 := by kernel_rfl
theorem c2c : iD prog 29 = some 3 := by kernel_rfl
theorem c5g : iD prog 32 = some 1 := by kernel_rfl
theorem c3A : iD prog 33 = some 1 := by kernel_rfl
theorem b9C : iD prog 34 = some 1 := by kernel_rfl
theorem mJ : iD prog 36 = some 4 := by kernel_rfl
theorem c3x : iD prog 38 = some 1 := by kernel_rfl
theorem c0U : iD prog 39 = some 1 := by kernel_rfl
theorem pN : iD prog 41 = some 3 := by kernel_rfl
theorem b2P : iD prog 49 = some 1 := by kernel_rfl
theorem rX : iD prog 55 = some 2 := by kernel_rfl
theorem zD : iD prog 57 = some 2 := by kernel_rfl
theorem a1a : iD prog 59 = some 6 := by kernel_rfl
theorem nU : iD prog 64 = some 2 := by kernel_rfl
theorem a0T : iD prog 69 = some 2 := by kernel_rfl
theorem c2R : iD prog 70 = some 1 := by kernel_rfl
theorem yU : iD prog 72 = some 5 := by kernel_rfl
theorem b8T : iD prog 90 = some 1 := by kernel_rfl
theorem kW : iD prog 104 = some 2 := by kernel_rfl
theorem b1A : iD prog 109 = some 4 := by kernel_rfl
theorem b6O : iD prog 113 = some 9 := by kernel_rfl
theorem vU : iD prog 115 = some 1 := by kernel_rfl
theorem oP : iD prog 117 = some 4 := by kernel_rfl
theorem b4D : iD prog 120 = some 4 := by kernel_rfl
theorem b0S : iD prog 122 = some 4 := by kernel_rfl
theorem vS : iD prog 124 = some 5 := by kernel_rfl
theorem a0K : iD prog 153 = some 2 := by kernel_rfl
theorem a2c : iD prog 156 = some 3 := by kernel_rfl
theorem b0P : iD prog 192 = some 3 := by kernel_rfl
theorem b5r : iD prog 227 = some 1 := by kernel_rfl
theorem c1h : iT prog 49 = some 1 := by kernel_rfl
theorem nI : kZ prog 114 = true ∧ nZ prog 9 = true ∧ kZ prog 9 = false := ⟨by kernel_rfl, by kernel_rfl, by kernel_rfl⟩
theorem c6y (A i e : Nat) (k : IntKind) (j : Int) (h0 : 0 ≤ j) (h1 : j < 5) : wP (iT prog 27) prog 27 (ptr A i e) (.int k j) = some (ptr A (i + j.toNat * 1) e) := a5H (n := 5) (elem := 5) (size := 1) (by kernel_rfl) (by kernel_rfl) A i e k j h0 h1
theorem c5D (A i e : Nat) (k : IntKind) (j : Int) (h0 : 0 ≤ j) (h1 : j < 3) : wP (iT prog 29) prog 29 (ptr A i e) (.int k j) = some (ptr A (i + j.toNat * 1) e) := a5H (n := 3) (elem := 28) (size := 1) (by kernel_rfl) (by kernel_rfl) A i e k j h0 h1
theorem c4w (A i e : Nat) (k : IntKind) (j : Int) (h0 : 0 ≤ j) (h1 : j < 64) : wP (iT prog 241) prog 241 (ptr A i e) (.int k j) = some (ptr A (i + j.toNat * 1) e) := a5H (n := 64) (elem := 5) (size := 1) (by kernel_rfl) (by kernel_rfl) A i e k j h0 h1
theorem c1R : mY prog 32 = some (6, 80) := by kernel_rfl
theorem c4Y : ((iG prog 32).bind (jA prog)).any jB = true := by kernel_rfl
theorem c2J : mY prog 33 = some (5, 64) := by kernel_rfl
theorem c4I : ((iG prog 33).bind (jA prog)).any jB = true := by kernel_rfl
theorem a8I : mY prog 34 = some (5, 48) := by kernel_rfl
theorem b8v : ((iG prog 34).bind (jA prog)).any jB = true := by kernel_rfl
theorem c1g : mY prog 38 = some (1, 8) := by kernel_rfl
theorem c2X : ((iG prog 38).bind (jA prog)).any jB = true := by kernel_rfl
theorem a3q : mY prog 44 = some (2, 16) := by kernel_rfl
theorem b6i : ((iG prog 44).bind (jA prog)).any jB = true := by kernel_rfl
theorem yC : mY prog 49 = some (1, 8) := by kernel_rfl
theorem a1J : ((iG prog 49).bind (jA prog)).any jB = true := by kernel_rfl
theorem b6B : mY prog 52 = some (2, 16) := by kernel_rfl
theorem c3n : ((iG prog 52).bind (jA prog)).any jB = true := by kernel_rfl
theorem c2n : mY prog 70 = some (4, 56) := by kernel_rfl
theorem c4H : ((iG prog 70).bind (jA prog)).any jB = true := by kernel_rfl
theorem vM : mY prog 90 = some (2, 16) := by kernel_rfl
theorem a9l : ((iG prog 90).bind (jA prog)).any jB = true := by kernel_rfl
theorem b1F : mY prog 114 = some (1, 1) := by kernel_rfl
theorem b1q : ((iG prog 114).bind (jA prog)).any jB = true := by kernel_rfl
theorem pW : mY prog 115 = some (3, 40) := by kernel_rfl
theorem vT : ((iG prog 115).bind (jA prog)).any jB = true := by kernel_rfl
theorem c4L : mY prog 144 = some (1, 16) := by kernel_rfl
theorem c3k : ((iG prog 144).bind (jA prog)).any jB = true := by kernel_rfl
theorem c0s : mY prog 145 = some (2, 16) := by kernel_rfl
theorem c3N : ((iG prog 145).bind (jA prog)).any jB = true := by kernel_rfl
theorem a4w : mY prog 154 = some (2, 16) := by kernel_rfl
theorem a3M : ((iG prog 154).bind (jA prog)).any jB = true := by kernel_rfl
theorem b6f : mY prog 164 = some (3, 40) := by kernel_rfl
theorem b6L : ((iG prog 164).bind (jA prog)).any jB = true := by kernel_rfl
theorem c0q : mY prog 195 = some (2, 16) := by kernel_rfl
theorem c0p : ((iG prog 195).bind (jA prog)).any jB = true := by kernel_rfl
theorem c3u : c1m prog 49 = some (8, .int .i64 0) := by kernel_rfl
theorem c3V (t2 : TypeId) (cx cy : Bool) (a0 : Int) (a1 : Int) (b0 : Int) (b1 : Int) : kP prog .eql 55 t2 cx cy (.agg #[.int .i64 a0, .int .i64 a1]) (.agg #[.int .i64 b0, .int .i64 b1]) = some (.bool (decide (a0 = b0 ∧ a1 = b1))) ∧ kP prog .neq 55 t2 cx cy (.agg #[.int .i64 a0, .int .i64 a1]) (.agg #[.int .i64 b0, .int .i64 b1]) = some (.bool (decide (¬ (a0 = b0 ∧ a1 = b1)))) := by
 have h := xY (P := prog) (t := 55) (t2 := t2) (cx := cx) (cy := cy) (xs := [.int .i64 a0, .int .i64 a1]) (ys := [.int .i64 b0, .int .i64 b1]) (by kernel_rfl) (by kernel_rfl) (by kernel_rfl) (by kernel_rfl) rfl (by kernel_rfl) rfl rfl
 have e : ((List.range [Value.int .i64 a0, .int .i64 a1].length).all fun j => eqC ([Value.int .i64 a0, .int .i64 a1].getD j undef) ([Value.int .i64 b0, .int .i64 b1].getD j undef)) = decide (a0 = b0 ∧ a1 = b1) := by
  show (eqC (Value.int .i64 a0) (.int .i64 b0) && (eqC (Value.int .i64 a1) (.int .i64 b1) && true)) = _
  rw [eo]
  simp [eqC]
 rw [e] at h
 exact ⟨h.1, by rw [h.2]; simp⟩
theorem c4h (t2 : TypeId) (cx cy : Bool) (a0 : Int) (a1 : Int) (b0 : Int) (b1 : Int) : kP prog .eql 55 t2 cx cy (.agg #[.int .i64 a0, .int .i64 a1]) (.agg #[.int .i64 b0, .int .i64 b1]) = some (.bool (decide (a0 = b0 ∧ a1 = b1))) := (c3V t2 cx cy a0 a1 b0 b1).1
theorem c2U (t2 : TypeId) (cx cy : Bool) (a0 : Int) (a1 : Int) (b0 : Int) (b1 : Int) : kP prog .neq 55 t2 cx cy (.agg #[.int .i64 a0, .int .i64 a1]) (.agg #[.int .i64 b0, .int .i64 b1]) = some (.bool (decide (¬ (a0 = b0 ∧ a1 = b1)))) := (c3V t2 cx cy a0 a1 b0 b1).2
theorem c3O (t2 : TypeId) (cx cy : Bool) (a0 : Int) (a1 : Int) (b0 : Int) (b1 : Int) : kP prog .eql 64 t2 cx cy (.agg #[.int .i64 a0, .int .i64 a1]) (.agg #[.int .i64 b0, .int .i64 b1]) = some (.bool (decide (a0 = b0 ∧ a1 = b1))) ∧ kP prog .neq 64 t2 cx cy (.agg #[.int .i64 a0, .int .i64 a1]) (.agg #[.int .i64 b0, .int .i64 b1]) = some (.bool (decide (¬ (a0 = b0 ∧ a1 = b1)))) := by
 have h := xY (P := prog) (t := 64) (t2 := t2) (cx := cx) (cy := cy) (xs := [.int .i64 a0, .int .i64 a1]) (ys := [.int .i64 b0, .int .i64 b1]) (by kernel_rfl) (by kernel_rfl) (by kernel_rfl) (by kernel_rfl) rfl (by kernel_rfl) rfl rfl
 have e : ((List.range [Value.int .i64 a0, .int .i64 a1].length).all fun j => eqC ([Value.int .i64 a0, .int .i64 a1].getD j undef) ([Value.int .i64 b0, .int .i64 b1].getD j undef)) = decide (a0 = b0 ∧ a1 = b1) := by
  show (eqC (Value.int .i64 a0) (.int .i64 b0) && (eqC (Value.int .i64 a1) (.int .i64 b1) && true)) = _
  rw [eo]
  simp [eqC]
 rw [e] at h
 exact ⟨h.1, by rw [h.2]; simp⟩
theorem c4l (t2 : TypeId) (cx cy : Bool) (a0 : Int) (a1 : Int) (b0 : Int) (b1 : Int) : kP prog .eql 64 t2 cx cy (.agg #[.int .i64 a0, .int .i64 a1]) (.agg #[.int .i64 b0, .int .i64 b1]) = some (.bool (decide (a0 = b0 ∧ a1 = b1))) := (c3O t2 cx cy a0 a1 b0 b1).1
theorem c3z (t2 : TypeId) (cx cy : Bool) (a0 : Int) (a1 : Int) (b0 : Int) (b1 : Int) : kP prog .neq 64 t2 cx cy (.agg #[.int .i64 a0, .int .i64 a1]) (.agg #[.int .i64 b0, .int .i64 b1]) = some (.bool (decide (¬ (a0 = b0 ∧ a1 = b1)))) := (c3O t2 cx cy a0 a1 b0 b1).2
theorem b9X (t2 : TypeId) (cx cy : Bool) (a0 : Int) (a1 : Int) (b0 : Int) (b1 : Int) : kP prog .eql 104 t2 cx cy (.agg #[.int .u64 a0, .int .u64 a1]) (.agg #[.int .u64 b0, .int .u64 b1]) = some (.bool (decide (a0 = b0 ∧ a1 = b1))) ∧ kP prog .neq 104 t2 cx cy (.agg #[.int .u64 a0, .int .u64 a1]) (.agg #[.int .u64 b0, .int .u64 b1]) = some (.bool (decide (¬ (a0 = b0 ∧ a1 = b1)))) := by
 have h := xY (P := prog) (t := 104) (t2 := t2) (cx := cx) (cy := cy) (xs := [.int .u64 a0, .int .u64 a1]) (ys := [.int .u64 b0, .int .u64 b1]) (by kernel_rfl) (by kernel_rfl) (by kernel_rfl) (by kernel_rfl) rfl (by kernel_rfl) rfl rfl
 have e : ((List.range [Value.int .u64 a0, .int .u64 a1].length).all fun j => eqC ([Value.int .u64 a0, .int .u64 a1].getD j undef) ([Value.int .u64 b0, .int .u64 b1].getD j undef)) = decide (a0 = b0 ∧ a1 = b1) := by
  show (eqC (Value.int .u64 a0) (.int .u64 b0) && (eqC (Value.int .u64 a1) (.int .u64 b1) && true)) = _
  rw [eo]
  simp [eqC]
 rw [e] at h
 exact ⟨h.1, by rw [h.2]; simp⟩
theorem c1u (t2 : TypeId) (cx cy : Bool) (a0 : Int) (a1 : Int) (b0 : Int) (b1 : Int) : kP prog .eql 104 t2 cx cy (.agg #[.int .u64 a0, .int .u64 a1]) (.agg #[.int .u64 b0, .int .u64 b1]) = some (.bool (decide (a0 = b0 ∧ a1 = b1))) := (b9X t2 cx cy a0 a1 b0 b1).1
theorem c0J (t2 : TypeId) (cx cy : Bool) (a0 : Int) (a1 : Int) (b0 : Int) (b1 : Int) : kP prog .neq 104 t2 cx cy (.agg #[.int .u64 a0, .int .u64 a1]) (.agg #[.int .u64 b0, .int .u64 b1]) = some (.bool (decide (¬ (a0 = b0 ∧ a1 = b1)))) := (b9X t2 cx cy a0 a1 b0 b1).2
theorem c0c (t2 : TypeId) (cx cy : Bool) (a0 : Int) (a1 : Int) (b0 : Int) (b1 : Int) : kP prog .eql 153 t2 cx cy (.agg #[.int .i64 a0, .int .i64 a1]) (.agg #[.int .i64 b0, .int .i64 b1]) = some (.bool (decide (a0 = b0 ∧ a1 = b1))) ∧ kP prog .neq 153 t2 cx cy (.agg #[.int .i64 a0, .int .i64 a1]) (.agg #[.int .i64 b0, .int .i64 b1]) = some (.bool (decide (¬ (a0 = b0 ∧ a1 = b1)))) := by
 have h := xY (P := prog) (t := 153) (t2 := t2) (cx := cx) (cy := cy) (xs := [.int .i64 a0, .int .i64 a1]) (ys := [.int .i64 b0, .int .i64 b1]) (by kernel_rfl) (by kernel_rfl) (by kernel_rfl) (by kernel_rfl) rfl (by kernel_rfl) rfl rfl
 have e : ((List.range [Value.int .i64 a0, .int .i64 a1].length).all fun j => eqC ([Value.int .i64 a0, .int .i64 a1].getD j undef) ([Value.int .i64 b0, .int .i64 b1].getD j undef)) = decide (a0 = b0 ∧ a1 = b1) := by
  show (eqC (Value.int .i64 a0) (.int .i64 b0) && (eqC (Value.int .i64 a1) (.int .i64 b1) && true)) = _
  rw [eo]
  simp [eqC]
 rw [e] at h
 exact ⟨h.1, by rw [h.2]; simp⟩
theorem c2E (t2 : TypeId) (cx cy : Bool) (a0 : Int) (a1 : Int) (b0 : Int) (b1 : Int) : kP prog .eql 153 t2 cx cy (.agg #[.int .i64 a0, .int .i64 a1]) (.agg #[.int .i64 b0, .int .i64 b1]) = some (.bool (decide (a0 = b0 ∧ a1 = b1))) := (c0c t2 cx cy a0 a1 b0 b1).1
theorem c2z (t2 : TypeId) (cx cy : Bool) (a0 : Int) (a1 : Int) (b0 : Int) (b1 : Int) : kP prog .neq 153 t2 cx cy (.agg #[.int .i64 a0, .int .i64 a1]) (.agg #[.int .i64 b0, .int .i64 b1]) = some (.bool (decide (¬ (a0 = b0 ∧ a1 = b1)))) := (c0c t2 cx cy a0 a1 b0 b1).2
theorem c1C {a1 : ByteArray} : kR prog 36 [(0, .string a1)] = some (.agg #[.string a1, .slice none 0 0, .slice none 0 0, .slice none 0 0]) := by kernel_rfl
theorem a5A {a1 : ByteArray} {a2 : Value} {a3 : Value} {a4 : Value} (h2 : a2.cells = #[a2] ∧ oneCell a2 = true ∧ pO a2 = true) (h3 : a3.cells = #[a3] ∧ oneCell a3 = true ∧ pO a3 = true) (h4 : a4.cells = #[a4] ∧ oneCell a4 = true ∧ pO a4 = true) : kR prog 36 [(0, .string a1), (1, a2), (2, a3), (3, a4)] = some (.agg #[.string a1, a2, a3, a4]) := by cases a2 <;> cases a3 <;> cases a4 <;> first | (exfalso; simp [oneCell] at h2; done) | (exfalso; simp [oneCell] at h3; done) | (exfalso; simp [oneCell] at h4; done) | kernel_rfl
theorem b6P {a1 : Value} {a2 : Int} (h1 : a1.cells = #[a1] ∧ oneCell a1 = true ∧ pO a1 = true) : kR prog 41 [(0, a1), (1, .int .u64 a2)] = some (.agg #[a1, .int .u64 a2, .int .u64 0]) := by cases a1 <;> first | (exfalso; simp [oneCell] at h1; done) | kernel_rfl
theorem b4n {a1 : Int} {a2 : Int} : kR prog 41 [(1, .int .u64 a1), (2, .int .u64 a2)] = some (.agg #[.slice none 0 0, .int .u64 a1, .int .u64 a2]) := by kernel_rfl
theorem b9Z : kR prog 55 [] = some (.agg #[.int .i64 0, .int .i64 0]) := by kernel_rfl
theorem b5U {a1 : Int} {a2 : Int} : kR prog 55 [(0, .int .i64 a1), (1, .int .i64 a2)] = some (.agg #[.int .i64 a1, .int .i64 a2]) := by kernel_rfl
theorem yT {a1 : Int} {a2 : Int} : kR prog 57 [(0, .int .i64 a1), (1, .int .i64 a2)] = some (.agg #[.int .i64 a1, .int .i64 a2]) := by kernel_rfl
theorem a4L {a1 : ByteArray} {a2 : ByteArray} {a3 : Int} {a4 : Int} {a5 : Int} : kR prog 59 [(0, .string a1), (1, .string a2), (2, .agg #[.int .i64 a3, .int .i64 a4]), (3, .int .i64 a5)] = some (.agg #[.string a1, .string a2, .int .i64 a3, .int .i64 a4, .int .i64 a5, .slice none 0 0]) := by kernel_rfl
theorem a2f {a1 : ByteArray} {a2 : ByteArray} {a3 : Int} {a4 : Int} {a5 : Int} {a6 : Value} (h6 : a6.cells = #[a6] ∧ oneCell a6 = true ∧ pO a6 = true) : kR prog 59 [(0, .string a1), (1, .string a2), (2, .agg #[.int .i64 a3, .int .i64 a4]), (3, .int .i64 a5), (4, a6)] = some (.agg #[.string a1, .string a2, .int .i64 a3, .int .i64 a4, .int .i64 a5, a6]) := by cases a6 <;> first | (exfalso; simp [oneCell] at h6; done) | kernel_rfl
theorem c3l : kR prog 64 [] = some (.agg #[.int .i64 0, .int .i64 0]) := by kernel_rfl
theorem uK {a1 : Int} {a2 : Int} : kR prog 64 [(0, .int .i64 a1), (1, .int .i64 a2)] = some (.agg #[.int .i64 a1, .int .i64 a2]) := by kernel_rfl
theorem c0X {a1 : Int} : kR prog 64 [(1, .int .i64 a1)] = some (.agg #[.int .i64 0, .int .i64 a1]) := by kernel_rfl
theorem a7C {a1 : Int} {a2 : Int} : kR prog 69 [(0, .int .i64 a1), (1, .int .i64 a2)] = some (.agg #[.int .i64 a1, .int .i64 a2]) := by kernel_rfl
theorem a8O {a1 : ByteArray} {a2 : Bool} {a3 : Int} {a4 : Int} : kR prog 72 [(0, .string a1), (1, .bool a2), (2, .agg #[.int .i64 a3, .int .i64 a4])] = some (.agg #[.string a1, .bool a2, .int .i64 a3, .int .i64 a4, .slice none 0 0]) := by kernel_rfl
theorem a1D {a1 : ByteArray} {a2 : Int} {a3 : Int} {a4 : Value} (h4 : a4.cells = #[a4] ∧ oneCell a4 = true ∧ pO a4 = true) : kR prog 72 [(0, .string a1), (2, .agg #[.int .i64 a2, .int .i64 a3]), (3, a4)] = some (.agg #[.string a1, .bool false, .int .i64 a2, .int .i64 a3, a4]) := by cases a4 <;> first | (exfalso; simp [oneCell] at h4; done) | kernel_rfl
theorem a9E : kR prog 104 [] = some (.agg #[.int .u64 0, .int .u64 0]) := by kernel_rfl
theorem b1S {a1 : Int} {a2 : Int} : kR prog 104 [(0, .int .u64 a1), (1, .int .u64 a2)] = some (.agg #[.int .u64 a1, .int .u64 a2]) := by kernel_rfl
theorem b3M {a1 : ByteArray} {a2 : Int} {a3 : Int} : kR prog 117 [(0, .string a1), (1, .agg #[.int .i64 a2, .int .i64 a3])] = some (.agg #[.string a1, .int .i64 a2, .int .i64 a3, .slice none 0 0]) := by kernel_rfl
theorem a7d {a1 : ByteArray} {a2 : Int} {a3 : Int} {a4 : Value} (h4 : a4.cells = #[a4] ∧ oneCell a4 = true ∧ pO a4 = true) : kR prog 117 [(0, .string a1), (1, .agg #[.int .i64 a2, .int .i64 a3]), (2, a4)] = some (.agg #[.string a1, .int .i64 a2, .int .i64 a3, a4]) := by cases a4 <;> first | (exfalso; simp [oneCell] at h4; done) | kernel_rfl
theorem a7T {a1 : ByteArray} {a2 : Int} {a3 : Int} : kR prog 124 [(0, .string a1), (1, .int .i64 a2), (2, .int .i64 a3)] = some (.agg #[.string a1, .int .i64 a2, .int .i64 a3, .int .i64 0, .bool false]) := by kernel_rfl
theorem a0S {a1 : ByteArray} {a2 : Int} {a3 : Int} {a4 : Int} {a5 : Bool} : kR prog 124 [(0, .string a1), (1, .int .i64 a2), (2, .int .i64 a3), (3, .int .i64 a4), (4, .bool a5)] = some (.agg #[.string a1, .int .i64 a2, .int .i64 a3, .int .i64 a4, .bool a5]) := by kernel_rfl
theorem qF {a1 : Int} {a2 : Int} : kR prog 153 [(0, .int .i64 a1), (1, .int .i64 a2)] = some (.agg #[.int .i64 a1, .int .i64 a2]) := by kernel_rfl
theorem c0I : kR prog 156 [] = some (.agg #[.int .i64 0, .int .i64 0, .slice none 0 0]) := by kernel_rfl
theorem lH {a1 : Int} {a2 : Int} {a3 : Value} (h3 : a3.cells = #[a3] ∧ oneCell a3 = true ∧ pO a3 = true) : kR prog 156 [(0, .int .i64 a1), (1, .int .i64 a2), (2, a3)] = some (.agg #[.int .i64 a1, .int .i64 a2, a3]) := by cases a3 <;> first | (exfalso; simp [oneCell] at h3; done) | kernel_rfl
theorem b2O {a1 : Value} {a2 : Int} {a3 : Int} (h1 : a1.cells = #[a1] ∧ oneCell a1 = true ∧ pO a1 = true) : kR prog 192 [(0, a1), (1, .agg #[.int .i64 a2, .int .i64 a3])] = some (.agg #[a1, .int .i64 a2, .int .i64 a3]) := by cases a1 <;> first | (exfalso; simp [oneCell] at h1; done) | kernel_rfl
theorem b2d {a1 : Int} {a2 : Int} : kR prog 215 [(0, .int .u64 a1), (1, .int .u64 a2)] = some (.agg #[.int .u64 a1, .int .u64 a2]) := by kernel_rfl
theorem tR7 (l : List Value) (H : Heap) : iC prog Tryz.f7 l H = some (get l 6) := rfl
theorem c5Q (l : List Value) (H : Heap) : iC prog Tryz.f10 l H = some (get l 0) := rfl
theorem a8U (l : List Value) (H : Heap) : iC prog Tryz.f11 l H = some (get l 2) := rfl
theorem c5C (l : List Value) (H : Heap) : iC prog Tryz.f12 l H = pM (jN prog 36) (iD prog 36) H (get l 2) := by
 show (Option.bind (Option.bind (lM prog H 36 (get l 2)) fun v => some [v]) fun vs => _) = _
 rw [lB]
 cases pM _ _ H (get l 2) <;> rfl
theorem c6m (l : List Value) (H : Heap) : iC prog Tryz.f13 l H = pM (jN prog 41) (iD prog 41) H (get l 4) := by
 show (Option.bind (Option.bind (lM prog H 41 (get l 4)) fun v => some [v]) fun vs => _) = _
 rw [lB]
 cases pM _ _ H (get l 4) <;> rfl
theorem c6p (l : List Value) (H : Heap) : iC prog Tryz.f14 l H = some (get l 4) := rfl
theorem c4t (l : List Value) (H : Heap) : iC prog Tryz.f15 l H = if (jC (get l 6) && (jC (get l 7) && true)) = true then some (.tuple #[get l 6, get l 7]) else none := rfl
theorem c3h (l : List Value) (H : Heap) : iC prog Tryz.f16 l H = if (jC (get l 6) && (jC (get l 7) && true)) = true then some (.tuple #[get l 6, get l 7]) else none := rfl
theorem c1j (l : List Value) (H : Heap) : iC prog Tryz.f19 l H = some (get l 4) := rfl
theorem c3F (l : List Value) (H : Heap) : iC prog Tryz.f21 l H = if (jC (get l 4) && (jC (get l 5) && true)) = true then some (.tuple #[get l 4, get l 5]) else none := rfl
theorem c4o (l : List Value) (H : Heap) : iC prog Tryz.f28 l H = if (jC (get l 6) && (jC (get l 7) && true)) = true then some (.tuple #[get l 6, get l 7]) else none := rfl
theorem c4B (l : List Value) (H : Heap) : iC prog Tryz.f29 l H = if (jC (get l 8) && (jC (get l 9) && true)) = true then some (.tuple #[get l 8, get l 9]) else none := rfl
theorem c6B (l : List Value) (H : Heap) : iC prog Tryz.f32 l H = if (jC (get l 4) && (jC (get l 5) && true)) = true then some (.tuple #[get l 4, get l 5]) else none := rfl
theorem b3S (l : List Value) (H : Heap) : iC prog Tryz.f33 l H = some (get l 4) := rfl
theorem b9O (l : List Value) (H : Heap) : iC prog Tryz.f34 l H = some (get l 4) := rfl
theorem a3h (l : List Value) (H : Heap) : iC prog Tryz.f36 l H = some (get l 2) := rfl
theorem c6E (l : List Value) (H : Heap) : iC prog Tryz.f37 l H = pM (jN prog 36) (iD prog 36) H (get l 0) := by
 show (Option.bind (Option.bind (lM prog H 36 (get l 0)) fun v => some [v]) fun vs => _) = _
 rw [lB]
 cases pM _ _ H (get l 0) <;> rfl
theorem c6q (l : List Value) (H : Heap) : iC prog Tryz.f38 l H = some (get l 4) := rfl
theorem c5N (l : List Value) (H : Heap) : iC prog Tryz.f39 l H = (pM (jN prog 104) (iD prog 104) H (get l 2)).bind fun v => if (jC v && (jC (get l 3) && true)) = true then some (.tuple #[v, get l 3]) else none := by
 show (Option.bind (Option.bind (lM prog H 104 (get l 2)) fun v => some [v, get l 3]) fun vs => _) = _
 rw [lB]
 cases pM _ _ H (get l 2) <;> rfl
theorem c6v (l : List Value) (H : Heap) : iC prog Tryz.f40 l H = pM (jN prog 59) (iD prog 59) H (get l 4) := by
 show (Option.bind (Option.bind (lM prog H 59 (get l 4)) fun v => some [v]) fun vs => _) = _
 rw [lB]
 cases pM _ _ H (get l 4) <;> rfl
theorem a8J (l : List Value) (H : Heap) : iC prog Tryz.f41 l H = pM (jN prog 117) (iD prog 117) H (get l 8) := by
 show (Option.bind (Option.bind (lM prog H 117 (get l 8)) fun v => some [v]) fun vs => _) = _
 rw [lB]
 cases pM _ _ H (get l 8) <;> rfl
theorem c2V (l : List Value) (H : Heap) : iC prog Tryz.f42 l H = if (jC (get l 6) && (jC (get l 7) && true)) = true then some (.tuple #[get l 6, get l 7]) else none := rfl
theorem c6d (l : List Value) (H : Heap) : iC prog Tryz.f43 l H = some (get l 4) := rfl
theorem c0H (l : List Value) (H : Heap) : iC prog Tryz.f48 l H = some (get l 2) := rfl
theorem b6x (l : List Value) (H : Heap) : iC prog Tryz.f49 l H = some (get l 6) := rfl
theorem c5P (l : List Value) (H : Heap) : iC prog Tryz.f50 l H = (pM (jN prog 104) (iD prog 104) H (get l 2)).bind fun v => if (jC v && (jC (get l 3) && true)) = true then some (.tuple #[v, get l 3]) else none := by
 show (Option.bind (Option.bind (lM prog H 104 (get l 2)) fun v => some [v, get l 3]) fun vs => _) = _
 rw [lB]
 cases pM _ _ H (get l 2) <;> rfl
theorem c3o (l : List Value) (H : Heap) : iC prog Tryz.f53 l H = if (jC (get l 6) && (jC (get l 7) && true)) = true then some (.tuple #[get l 6, get l 7]) else none := rfl
theorem c1e (l : List Value) (H : Heap) : iC prog Tryz.f54 l H = if (jC (get l 8) && (jC (get l 9) && true)) = true then some (.tuple #[get l 8, get l 9]) else none := rfl
theorem c2Z (l : List Value) (H : Heap) : iC prog Tryz.f56 l H = some (get l 2) := rfl
theorem c6h (l : List Value) (H : Heap) : iC prog Tryz.f58 l H = some (get l 2) := rfl
theorem c5L (l : List Value) (H : Heap) : iC prog Tryz.f59 l H = some (get l 4) := rfl
theorem b2x (l : List Value) (H : Heap) : iC prog Tryz.f60 l H = some (get l 2) := rfl
theorem a8E (l : List Value) (H : Heap) : iC prog Tryz.f61 l H = some (get l 2) := rfl
theorem c3a (l : List Value) (H : Heap) : iC prog Tryz.f62 l H = some (get l 4) := rfl
theorem b5t (l : List Value) (H : Heap) : iC prog Tryz.f63 l H = some (get l 4) := rfl
theorem zI (l : List Value) (H : Heap) : iC prog Tryz.f64 l H = some (get l 4) := rfl
theorem c5K (l : List Value) (H : Heap) : iC prog Tryz.f65 l H = some (get l 6) := rfl
theorem c5H (l : List Value) (H : Heap) : iC prog Tryz.f66 l H = pM (jN prog 59) (iD prog 59) H (get l 2) := by
 show (Option.bind (Option.bind (lM prog H 59 (get l 2)) fun v => some [v]) fun vs => _) = _
 rw [lB]
 cases pM _ _ H (get l 2) <;> rfl
theorem c5r (l : List Value) (H : Heap) : iC prog Tryz.f67 l H = some (get l 2) := rfl
theorem c3R (l : List Value) (H : Heap) : iC prog Tryz.f68 l H = pM (jN prog 104) (iD prog 104) H (get l 4) := by
 show (Option.bind (Option.bind (lM prog H 104 (get l 4)) fun v => some [v]) fun vs => _) = _
 rw [lB]
 cases pM _ _ H (get l 4) <;> rfl
theorem c6j (l : List Value) (H : Heap) : iC prog Tryz.f69 l H = pM (jN prog 57) (iD prog 57) H (get l 2) := by
 show (Option.bind (Option.bind (lM prog H 57 (get l 2)) fun v => some [v]) fun vs => _) = _
 rw [lB]
 cases pM _ _ H (get l 2) <;> rfl
theorem c5X (l : List Value) (H : Heap) : iC prog Tryz.f70 l H = pM (jN prog 57) (iD prog 57) H (get l 2) := by
 show (Option.bind (Option.bind (lM prog H 57 (get l 2)) fun v => some [v]) fun vs => _) = _
 rw [lB]
 cases pM _ _ H (get l 2) <;> rfl
theorem c5I (l : List Value) (H : Heap) : iC prog Tryz.f71 l H = if (jC (get l 4) && (jC (get l 5) && true)) = true then some (.tuple #[get l 4, get l 5]) else none := rfl
theorem c4X (l : List Value) (H : Heap) : iC prog Tryz.f72 l H = some (get l 6) := rfl
theorem c5W (l : List Value) (H : Heap) : iC prog Tryz.f73 l H = some (get l 6) := rfl
theorem c5Z (l : List Value) (H : Heap) : iC prog Tryz.f74 l H = some (get l 2) := rfl
theorem b9L (l : List Value) (H : Heap) : iC prog Tryz.f82 l H = some (get l 2) := rfl
theorem c4Q (l : List Value) (H : Heap) : iC prog Tryz.f86 l H = some (get l 6) := rfl
theorem b4S (l : List Value) (H : Heap) : iC prog Tryz.f87 l H = some (get l 4) := rfl
theorem c6a (l : List Value) (H : Heap) : iC prog Tryz.f88 l H = some (get l 4) := rfl
theorem c4f (l : List Value) (H : Heap) : iC prog Tryz.f89 l H = some (get l 2) := rfl
theorem c6A (l : List Value) (H : Heap) : iC prog Tryz.f90 l H = some (get l 2) := rfl
theorem c5E (l : List Value) (H : Heap) : iC prog Tryz.f91 l H = some (get l 2) := rfl
theorem c5S (l : List Value) (H : Heap) : iC prog Tryz.f92 l H = pM (jN prog 104) (iD prog 104) H (get l 4) := by
 show (Option.bind (Option.bind (lM prog H 104 (get l 4)) fun v => some [v]) fun vs => _) = _
 rw [lB]
 cases pM _ _ H (get l 4) <;> rfl
theorem b4f (l : List Value) (H : Heap) : iC prog Tryz.f93 l H = some (get l 2) := rfl
theorem b4N (l : List Value) (H : Heap) : iC prog Tryz.f94 l H = some (get l 2) := rfl
theorem c4V (l : List Value) (H : Heap) : iC prog Tryz.f95 l H = some (get l 2) := rfl
theorem c3C (l : List Value) (H : Heap) : iC prog Tryz.f96 l H = some (get l 2) := rfl
theorem a0X (l : List Value) (H : Heap) : iC prog Tryz.f97 l H = some (get l 4) := rfl
theorem c6c (l : List Value) (H : Heap) : iC prog Tryz.f98 l H = some (get l 4) := rfl
theorem c5G (l : List Value) (H : Heap) : iC prog Tryz.f99 l H = some (get l 3) := rfl
theorem b9Y (l : List Value) (H : Heap) : iC prog Tryz.f100 l H = some (get l 4) := rfl
theorem c4r (l : List Value) (H : Heap) : iC prog Tryz.f101 l H = some (get l 4) := rfl
theorem b5H (l : List Value) (H : Heap) : iC prog Tryz.f102 l H = some (get l 4) := rfl
theorem c4Z (l : List Value) (H : Heap) : iC prog Tryz.f103 l H = some (get l 6) := rfl
theorem c4U (l : List Value) (H : Heap) : iC prog Tryz.f104 l H = some (get l 6) := rfl
theorem c0u (l : List Value) (H : Heap) : iC prog Tryz.f118 l H = if (jC (get l 6) && (jC (get l 7) && true)) = true then some (.tuple #[get l 6, get l 7]) else none := rfl
theorem c2P (l : List Value) (H : Heap) : iC prog Tryz.f119 l H = some (get l 4) := rfl
theorem c3S (l : List Value) (H : Heap) : iC prog Tryz.f120 l H = some (get l 4) := rfl
theorem c3e (l : List Value) (H : Heap) : iC prog Tryz.f121 l H = some (.tuple #[]) := rfl
theorem c3b (l : List Value) (H : Heap) : iC prog Tryz.f122 l H = some (get l 2) := rfl
theorem a3E (l : List Value) (H : Heap) : iC prog Tryz.f123 l H = some (get l 2) := rfl
theorem c2S (l : List Value) (H : Heap) : iC prog Tryz.f124 l H = some (get l 4) := rfl
theorem c0i (l : List Value) (H : Heap) : iC prog Tryz.f125 l H = some (get l 2) := rfl
theorem b4F (l : List Value) (H : Heap) : iC prog Tryz.f126 l H = some (get l 2) := rfl
theorem a1M (l : List Value) (H : Heap) : iC prog Tryz.f127 l H = some (get l 4) := rfl
theorem c0b (l : List Value) (H : Heap) : iC prog Tryz.f128 l H = some (get l 4) := rfl
theorem c3w (l : List Value) (H : Heap) : iC prog Tryz.f133 l H = some (get l 6) := rfl
theorem c0x (l : List Value) (H : Heap) : iC prog Tryz.f134 l H = some (.tuple #[]) := rfl
theorem c4E (l : List Value) (H : Heap) : iC prog Tryz.f135 l H = some (get l 4) := rfl
theorem b5J (l : List Value) (H : Heap) : iC prog Tryz.f136 l H = some (get l 2) := rfl
theorem c0k (l : List Value) (H : Heap) : iC prog Tryz.f150 l H = some (get l 2) := rfl
theorem b4Z (l : List Value) (H : Heap) : iC prog Tryz.f151 l H = some (get l 4) := rfl
theorem c3M (l : List Value) (H : Heap) : iC prog Tryz.f152 l H = some (get l 4) := rfl
theorem c0g (l : List Value) (H : Heap) : iC prog Tryz.f153 l H = some (get l 2) := rfl
theorem c0h (l : List Value) (H : Heap) : iC prog Tryz.f154 l H = some (get l 4) := rfl
theorem c4c (l : List Value) (H : Heap) : iC prog Tryz.f155 l H = some (get l 4) := rfl
theorem c0r (l : List Value) (H : Heap) : iC prog Tryz.f165 l H = pM (jN prog 156) (iD prog 156) H (get l 4) := by
 show (Option.bind (Option.bind (lM prog H 156 (get l 4)) fun v => some [v]) fun vs => _) = _
 rw [lB]
 cases pM _ _ H (get l 4) <;> rfl
theorem b0T (l : List Value) (H : Heap) : iC prog Tryz.f166 l H = (pM (jN prog 55) (iD prog 55) H (get l 6)).bind fun v => if (jC v && (jC (get l 7) && true)) = true then some (.tuple #[v, get l 7]) else none := by
 show (Option.bind (Option.bind (lM prog H 55 (get l 6)) fun v => some [v, get l 7]) fun vs => _) = _
 rw [lB]
 cases pM _ _ H (get l 6) <;> rfl
theorem c3i (l : List Value) (H : Heap) : iC prog Tryz.f167 l H = some (get l 2) := rfl
theorem c5j (l : List Value) (H : Heap) : iC prog Tryz.f172 l H = some (get l 2) := rfl
theorem c0j (l : List Value) (H : Heap) : iC prog Tryz.f173 l H = some (get l 4) := rfl
theorem c0C (l : List Value) (H : Heap) : iC prog Tryz.f185 l H = some (get l 4) := rfl
theorem c0z (l : List Value) (H : Heap) : iC prog Tryz.f186 l H = some (get l 3) := rfl
theorem c4k (l : List Value) (H : Heap) : iC prog Tryz.f187 l H = some (get l 4) := rfl
theorem a7D : MapK prog 147 Value.string (.bool false) := MapK.str (kt := 9) (et := 4) (by kernel_rfl) (by kernel_rfl) (by kernel_rfl) rfl
theorem a6e : MapK prog 227 (fun p : Int × Int => .agg #[I p.1, I p.2]) (.bool false) := MapK.struct (kt := 64) (et := 4) (fs := (a0d prog 64).toArray) (by kernel_rfl) (by kernel_rfl) (by kernel_rfl) rfl (fun b k => by cases b <;> kernel_rfl) (fun a b => c0O (by kernel_rfl) (by kernel_rfl) (by kernel_rfl) (fun _ _ _ _ => by kernel_rfl) a b) (fun k => c1q k)
theorem tt0 : jN prog 3 = some false ∧ jN prog 4 = some false ∧ iD prog 4 = some 1 ∧ jN prog 5 = some false ∧ iD prog 5 = some 1 ∧ jN prog 9 = some false ∧ iD prog 9 = some 1 ∧ jN prog 22 = some false ∧ iD prog 22 = some 1 ∧ jN prog 23 = some false ∧ iD prog 23 = some 1 ∧ jN prog 24 = some false ∧ iD prog 24 = some 1 ∧ jN prog 26 = some true ∧ jN prog 27 = some true ∧ jN prog 28 = some false ∧ iD prog 28 = some 1 ∧ jN prog 29 = some true ∧ jN prog 32 = some false ∧ jN prog 33 = some false ∧ jN prog 34 = some false ∧ jN prog 36 = some true ∧ jN prog 38 = some false ∧ jN prog 39 = some false ∧ jN prog 41 = some true ∧ jN prog 44 = some false ∧ iD prog 44 = some 1 ∧ jN prog 49 = some false ∧ jN prog 55 = some true ∧ jN prog 57 = some true ∧ jN prog 59 = some true ∧ jN prog 64 = some true ∧ jN prog 69 = some true ∧ jN prog 70 = some false ∧ jN prog 72 = some true ∧ jN prog 90 = some false ∧ jN prog 104 = some true ∧ jN prog 107 = some false ∧ iD prog 107 = some 1 ∧ jN prog 109 = some true := by and_intros <;> kernel_rfl
theorem tt1 : jN prog 111 = some false ∧ iD prog 111 = some 1 ∧ jN prog 113 = some true ∧ jN prog 115 = some false ∧ jN prog 117 = some true ∧ jN prog 120 = some true ∧ jN prog 122 = some true ∧ jN prog 124 = some true ∧ jN prog 153 = some true ∧ jN prog 154 = some false ∧ iD prog 154 = some 1 ∧ jN prog 156 = some true ∧ jN prog 192 = some true ∧ jN prog 227 = some false ∧ iT prog 22 = some 9 ∧ iT prog 23 = some 4 ∧ iT prog 24 = some 4 ∧ iT prog 32 = some 6 ∧ iT prog 33 = some 5 ∧ iT prog 34 = some 5 ∧ iT prog 38 = some 1 ∧ iT prog 44 = some 2 ∧ iT prog 52 = some 2 ∧ iT prog 70 = some 4 ∧ iT prog 78 = some 1 ∧ iT prog 90 = some 2 ∧ iT prog 107 = some 4 ∧ iT prog 114 = some 1 ∧ iT prog 115 = some 3 ∧ iT prog 144 = some 1 ∧ iT prog 145 = some 2 ∧ iT prog 154 = some 2 ∧ iT prog 164 = some 3 ∧ iT prog 195 = some 2 ∧ lL prog 32 = true ∧ lL prog 33 = true ∧ lL prog 34 = true ∧ lL prog 38 = true ∧ lL prog 44 = true ∧ lL prog 49 = true := by and_intros <;> kernel_rfl
theorem tt2 : lL prog 52 = true ∧ lL prog 70 = true ∧ lL prog 90 = true ∧ lL prog 114 = true ∧ lL prog 115 = true ∧ lL prog 144 = true ∧ lL prog 145 = true ∧ lL prog 154 = true ∧ lL prog 164 = true ∧ lL prog 195 = true ∧ iT prog 9 = none ∧ nZ prog 9 = true ∧ iW prog 26 0 = some 0 ∧ iW prog 26 1 = some 1 ∧ iW prog 26 2 = some 2 ∧ iW prog 36 0 = some 0 ∧ iW prog 36 1 = some 1 ∧ iW prog 36 2 = some 2 ∧ iW prog 36 3 = some 3 ∧ iW prog 41 0 = some 0 ∧ iW prog 41 1 = some 1 ∧ iW prog 41 2 = some 2 ∧ iW prog 55 0 = some 0 ∧ iW prog 55 1 = some 1 ∧ iW prog 57 0 = some 0 ∧ iW prog 57 1 = some 1 ∧ iW prog 59 0 = some 0 ∧ iW prog 59 1 = some 1 ∧ iW prog 59 2 = some 2 ∧ iW prog 59 3 = some 4 ∧ iW prog 59 4 = some 5 ∧ iW prog 64 0 = some 0 ∧ iW prog 64 1 = some 1 ∧ iW prog 69 0 = some 0 ∧ iW prog 69 1 = some 1 ∧ iW prog 72 0 = some 0 ∧ iW prog 72 2 = some 2 ∧ iW prog 72 3 = some 4 ∧ iW prog 104 0 = some 0 ∧ iW prog 104 1 = some 1 := by and_intros <;> kernel_rfl
theorem tt3 : iW prog 109 0 = some 0 ∧ iW prog 109 1 = some 1 ∧ iW prog 109 2 = some 2 ∧ iW prog 109 3 = some 3 ∧ iW prog 113 0 = some 0 ∧ iW prog 113 1 = some 1 ∧ iW prog 113 2 = some 2 ∧ iW prog 113 3 = some 3 ∧ iW prog 113 4 = some 4 ∧ iW prog 117 0 = some 0 ∧ iW prog 117 1 = some 1 ∧ iW prog 117 2 = some 3 ∧ iW prog 120 0 = some 0 ∧ iW prog 120 1 = some 1 ∧ iW prog 120 2 = some 2 ∧ iW prog 120 3 = some 3 ∧ iW prog 122 0 = some 0 ∧ iW prog 122 1 = some 1 ∧ iW prog 122 2 = some 2 ∧ iW prog 122 3 = some 3 ∧ iW prog 124 0 = some 0 ∧ iW prog 124 1 = some 1 ∧ iW prog 124 2 = some 2 ∧ iW prog 124 3 = some 3 ∧ iW prog 124 4 = some 4 ∧ iW prog 153 0 = some 0 ∧ iW prog 153 1 = some 1 ∧ iW prog 156 0 = some 0 ∧ iW prog 156 1 = some 1 ∧ iW prog 156 2 = some 2 ∧ iW prog 192 0 = some 0 ∧ iW prog 192 1 = some 1 ∧ jA prog 36 = some (.agg #[.string ⟨#[]⟩, .slice none 0 0, .slice none 0 0, .slice none 0 0]) ∧ jO prog 36 = none ∧ jA prog 41 = some (.agg #[.slice none 0 0, .int .u64 0, .int .u64 0]) ∧ jO prog 41 = none ∧ jA prog 55 = some (.agg #[.int .i64 0, .int .i64 0]) ∧ jO prog 55 = none ∧ jA prog 57 = some (.agg #[.int .i64 0, .int .i64 0]) ∧ jO prog 57 = none := by and_intros <;> kernel_rfl
theorem tt4 : jA prog 59 = some (.agg #[.string ⟨#[]⟩, .string ⟨#[]⟩, .int .i64 0, .int .i64 0, .int .i64 0, .slice none 0 0]) ∧ jO prog 59 = none ∧ jA prog 64 = some (.agg #[.int .i64 0, .int .i64 0]) ∧ jO prog 64 = none ∧ jA prog 69 = some (.agg #[.int .i64 0, .int .i64 0]) ∧ jO prog 69 = none ∧ jA prog 72 = some (.agg #[.string ⟨#[]⟩, .bool false, .int .i64 0, .int .i64 0, .slice none 0 0]) ∧ jO prog 72 = none ∧ jA prog 90 = some (.slice none 0 0) ∧ jO prog 90 = none ∧ jA prog 104 = some (.agg #[.int .u64 0, .int .u64 0]) ∧ jO prog 104 = none ∧ jA prog 109 = some (.agg #[.int .u8 0, .int .u8 0, .bool false, .slice none 0 0]) ∧ jO prog 109 = none ∧ jA prog 117 = some (.agg #[.string ⟨#[]⟩, .int .i64 0, .int .i64 0, .slice none 0 0]) ∧ jO prog 117 = none ∧ jA prog 122 = some (.agg #[.int .u8 0, .int .u8 0, .int .i8 0, .bool false]) ∧ jO prog 122 = none ∧ jA prog 124 = some (.agg #[.string ⟨#[]⟩, .int .i64 0, .int .i64 0, .int .i64 0, .bool false]) ∧ jO prog 124 = none ∧ jA prog 153 = some (.agg #[.int .i64 0, .int .i64 0]) ∧ jO prog 153 = none ∧ jA prog 156 = some (.agg #[.int .i64 0, .int .i64 0, .slice none 0 0]) ∧ jO prog 156 = none ∧ jA prog 227 = some (.map none) ∧ jO prog 227 = none ∧ a0Y prog 3 = some .i64 ∧ a0Y prog 5 = some .u8 ∧ a0Y prog 39 = some .u64 ∧ a0Y prog 111 = some .i8 ∧ a0Y prog 125 = some .u64 := by and_intros <;> kernel_rfl
def TS := (And.intro (And.intro (And.intro (And.intro (And.intro @tt0 (And.intro @tt1 @tt2)) (And.intro @tt3 (And.intro @tt4 @tS3))) (And.intro (And.intro @b8z (And.intro @c2F @c2c)) (And.intro @c5g (And.intro @c3A @b9C)))) (And.intro (And.intro (And.intro @mJ (And.intro @c3x @c0U)) (And.intro @pN (And.intro @b2P @rX))) (And.intro (And.intro @zD (And.intro @a1a @nU)) (And.intro @a0T (And.intro @c2R @yU))))) (And.intro (And.intro (And.intro (And.intro @b8T (And.intro @kW @b1A)) (And.intro @b6O (And.intro @vU @oP))) (And.intro (And.intro @b4D (And.intro @b0S @vS)) (And.intro @a0K (And.intro @a2c @b0P)))) (And.intro (And.intro (And.intro @b5r (And.intro @c1h @c6y)) (And.intro @c5D (And.intro @c4w @c4h))) (And.intro (And.intro @c2U (And.intro @c4l @c3z)) (And.intro (And.intro @c1u @c0J) (And.intro @c2E @c2z))))))
def RZ := And.intro @RB (And.intro @RC @TS)
end Go.Ds
namespace Go.Ds
open Go.Proofs
variable {P : Program} {H : Heap}
structure Drw where
 rank : Int
 shift : Int
 deriving DecidableEq, Inhabited
structure Seg where
 lo : Int
 hi : Int
 dv : Value
 draws : List Drw
 deriving Inhabited
structure Stp where
 name : ByteArray
 num : Int
 den : Int
 gv : Value
 segs : List Seg
 deriving Inhabited
structure Dvn where
 name : ByteArray
 pedal : Bool
 lo : Int
 hi : Int
 sv : Value
 stops : List Stp
 deriving Inhabited
structure Rk where
 name : ByteArray
 tone : ByteArray
 num : Int
 den : Int
 first : Int
 wv : Value
 wind : List Int
 deriving Inhabited
structure Cpl where
 name : ByteArray
 src : Int
 dst : Int
 shift : Int
 thr : Bool
 deriving Inhabited
structure Org where
 name : ByteArray
 rv : Value
 ranks : List Rk
 dv : Value
 dvs : List Dvn
 cv : Value
 cpls : List Cpl
 deriving Inhabited
def Drw.cells (d : Drw) : List Value := [I d.rank, I d.shift]
def Seg.cells (s : Seg) : List Value := [I s.lo, I s.hi, s.dv]
def Stp.cells (s : Stp) : List Value := [.string s.name, I s.num, I s.den, s.gv]
def Dvn.cells (d : Dvn) : List Value := [.string d.name, .bool d.pedal, I d.lo, I d.hi, d.sv]
def Rk.cells (r : Rk) : List Value := [.string r.name, .string r.tone, I r.num, I r.den, I r.first, r.wv]
def Cpl.cells (c : Cpl) : List Value := [.string c.name, I c.src, I c.dst, I c.shift, .bool c.thr]
def Org.cells (o : Org) : List Value := [.string o.name, o.rv, o.dv, o.cv]
def Seg.In (H : Heap) (s : Seg) : Prop := Sl 2 Drw.cells H s.dv s.draws ∧ s.draws.length < 1000000000
def Stp.In (H : Heap) (s : Stp) : Prop := Sl 3 Seg.cells H s.gv s.segs ∧ (∀ g ∈ s.segs, g.In H) ∧ s.segs.length < 1000000000
def Dvn.In (H : Heap) (d : Dvn) : Prop := Sl 4 Stp.cells H d.sv d.stops ∧ (∀ s ∈ d.stops, s.In H) ∧ d.stops.length < 1000000000
def Rk.In (H : Heap) (r : Rk) : Prop := Sl 1 (one I) H r.wv r.wind ∧ r.wind.length < 1000000000
def Org.In (H : Heap) (o : Org) : Prop := Sl 6 Rk.cells H o.rv o.ranks ∧ (∀ r ∈ o.ranks, r.In H) ∧ Sl 5 Dvn.cells H o.dv o.dvs ∧ (∀ d ∈ o.dvs, d.In H) ∧ Sl 5 Cpl.cells H o.cv o.cpls ∧ o.ranks.length < 1000000000 ∧ o.dvs.length < 1000000000 ∧ o.cpls.length < 1000000000
section
variable {H0 : Heap} {os : List Ob}
theorem Seg.In.ab {s : Seg} (h : s.In H0) (hS : St P H0 H os) : s.In H := ⟨hS.sl h.1, h.2⟩
theorem Stp.In.ab {s : Stp} (h : s.In H0) (hS : St P H0 H os) : s.In H := ⟨hS.sl h.1, fun g hg => (h.2.1 g hg).ab hS, h.2.2⟩
theorem Dvn.In.ab {d : Dvn} (h : d.In H0) (hS : St P H0 H os) : d.In H := ⟨hS.sl h.1, fun g hg => (h.2.1 g hg).ab hS, h.2.2⟩
theorem Rk.In.ab {r : Rk} (h : r.In H0) (hS : St P H0 H os) : r.In H := ⟨hS.sl h.1, h.2⟩
theorem Org.In.ab {o : Org} (h : o.In H0) (hS : St P H0 H os) : o.In H := ⟨hS.sl h.1, fun r hr => (h.2.1 r hr).ab hS, hS.sl h.2.2.1, fun d hd => (h.2.2.2.1 d hd).ab hS, hS.sl h.2.2.2.2.1, h.2.2.2.2.2⟩
end
def c3g (n : Int) : Prop := -9223372036854775808 ≤ n ∧ n < 9223372036854775808
end Go.Ds
