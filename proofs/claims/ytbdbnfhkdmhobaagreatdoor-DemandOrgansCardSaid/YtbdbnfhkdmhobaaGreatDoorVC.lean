/-
  A part of the proof of DemandOrgans.
-/
import Derived.Test.YtbdbnfhkdmhobaaGreatDoorVA
import Derived.Test.YtbdbnfhkdmhobaaGreatDoorVB
import Derived.Test.YtbdbnfhkdmhobaaGreatDoorProg
import Derived.KernelRfl
import Derived.Lib.LaidTab
import Derived.Stop.LaidErr
import Derived.Laws.Strings
set_option linter.unusedVariables false
set_option linter.unusedSimpArgs false
set_option linter.defProp false
set_option linter.unusedSectionVars false
namespace Go.Ds
noncomputable section
inductive Pth where
 | z
 | l (p : Pth)
 | r (p : Pth)
inductive Fr where
 | e
 | n (v : Value) (l r : Fr)
def a4N : Nat → Nat → Pth := fun f => Nat.rec (motive := fun _ => Nat → Pth) (fun _ => .z) (fun _ ih k => Nat.rec (motive := fun _ => Pth) .z (fun k _ => Bool.rec (motive := fun _ => Pth) (.r (ih (Nat.div k 2))) (.l (ih (Nat.div k 2))) (Nat.beq (Nat.mod k 2) 0)) k) f
def kP (k : Nat) : Pth := a4N k k
def nT (p : Pth) : Fr → Value := Pth.rec (motive := fun _ => Fr → Value)
 (fun f => Fr.rec (motive := fun _ => Value) undef (fun v _ _ _ _ => v) f)
 (fun _ ih f => Fr.rec (motive := fun _ => Value) undef (fun _ l _ _ _ => ih l) f)
 (fun _ ih f => Fr.rec (motive := fun _ => Value) undef (fun _ _ r _ _ => ih r) f) p
def pP {α : Type} (v : Value) (p : Pth) : Fr → (Fr → α) → α := Pth.rec (motive := fun _ => Fr → (Fr → α) → α)
 (fun f K => Fr.rec (motive := fun _ => α) (K (.n v .e .e)) (fun _ l r _ _ => K (.n v l r)) f)
 (fun _ ih f K => Fr.rec (motive := fun _ => α) (ih .e fun l => K (.n undef l .e)) (fun w l r _ _ => ih l fun l => K (.n w l r)) f)
 (fun _ ih f K => Fr.rec (motive := fun _ => α) (ih .e fun r => K (.n undef .e r)) (fun w l r _ _ => ih r fun r => K (.n w l r)) f) p
def lK {α : Type} (p : Pth) : (Pth → α) → α := Pth.rec (motive := fun _ => (Pth → α) → α) (fun K => K .z) (fun _ ih K => ih fun p => K (.l p)) (fun _ ih K => ih fun p => K (.r p)) p
inductive LArg where
 | t (p : Pth)
 | c (v : Value)
def mJ (f : Fr) (x : LArg) : Value := LArg.rec (motive := fun _ => Value) (fun p => nT p f) (fun v => v) x
inductive Rs where
 | no
 | ok (v : Value) (H : Heap)
 | th (v : Value) (H : Heap)
def oB {α : Type} (v : Value) (K : Value → α) : α :=
 match v with
 | .bool b => K (.bool b)
 | .int k n => K (.int k n)
 | .string s => K (.string s)
 | .pointer a => K (.pointer a)
 | .slice a n c => K (.slice a n c)
 | .map r => K (.map r)
 | .func fn a b => K (.func fn a b)
 | .agg cs => K (.agg cs)
 | .tuple vs => K (.tuple vs)
 | v => K v
inductive LOp where
 | bad
 | mv (x : LArg)
 | pick (c a b : LArg)
 | bin (g : IntKind → Int → Int → Option Value) (x y : LArg)
 | not (x : LArg)
 | ld1 (x : LArg)
 | ldn (n : Nat) (x : LArg)
 | st (n : Nat) (x y : LArg)
 | fa (off : Nat) (x : LArg)
 | ixs (size : Nat) (x i : LArg)
 | ixa (n size : Nat) (x i : LArg)
 | ext (i : Nat) (x : LArg)
 | f1 (off : Nat) (x : LArg)
 | fn (off n : Nat) (x : LArg)
 | len (x : LArg)
 | slen (x : LArg)
 | app (elem size bytes : Nat) (x y : LArg)
 | alloc (t : TypeId) (cs : List Value)
 | callF (f : FuncId) (p : Pth) (args : List LArg)
 | callV (g : LArg) (args : List LArg)
 | gen (o : Oper)
inductive LOps where
 | nil
 | cons (d : Option Pth) (o : LOp) (rest : LOps)
 | gcons (p : Pth) (w : Bool) (d : Option Pth) (o : LOp) (rest : LOps)
inductive LCode where
 | bad
 | skip
 | reg (ops : LOps)
 | drw (ops : LOps) (tab : List (Nat × Option Nat × Option (Pth × Bool) × LOp))
 | seq (a b : LCode)
 | cond (c : LArg) (x y : LCode)
 | block (id : Nat) (b : LCode)
 | loop (b : LCode)
 | exit (id : Nat)
 | ret
 | range (g : LArg) (ps : List Pth) (pp : List Pth) (params : Array Tmp) (assign body : Code) (a b : LCode)
inductive LRes where
 | t (p : Pth)
 | c1 (p : Pth)
 | cn (n : Nat) (p : Pth)
structure LFunc where
 ps : List Pth
 body : LCode
 res : List LRes
inductive LT where
 | e
 | n (g : Option LFunc) (l r : LT)
def a2c (p : Pth) : LT → Option LFunc := Pth.rec (motive := fun _ => LT → Option LFunc)
 (fun f => LT.rec (motive := fun _ => Option LFunc) none (fun v _ _ _ _ => v) f)
 (fun _ ih f => LT.rec (motive := fun _ => Option LFunc) none (fun _ l _ _ _ => ih l) f)
 (fun _ ih f => LT.rec (motive := fun _ => Option LFunc) none (fun _ _ r _ _ => ih r) f) p
def rU {α : Type} (v : LFunc) (p : Pth) : LT → (LT → α) → α := Pth.rec (motive := fun _ => LT → (LT → α) → α)
 (fun f K => LT.rec (motive := fun _ => α) (K (.n (some v) .e .e)) (fun _ l r _ _ => K (.n (some v) l r)) f)
 (fun _ ih f K => LT.rec (motive := fun _ => α) (ih .e fun l => K (.n none l .e)) (fun w l r _ _ => ih l fun l => K (.n w l r)) f)
 (fun _ ih f K => LT.rec (motive := fun _ => α) (ih .e fun r => K (.n none .e r)) (fun w l r _ _ => ih r fun r => K (.n w l r)) f) p
structure LEnv where
 L : Nat
 ps : List Pth
 pp : List Pth
 a : LCode
 b : LCode
def b8T (P : Program) (o : Oper) (ρ : Operand → Value) (H : Heap) : Option (Value × Heap) :=
 if o.op.operands.toList.all (fun x => flat (ρ x)) then
  match iL P (execOp ρ o) with
  | some (.value v) => if flat v then some (v, H) else none
  | _ => none
 else none
def c1t (P : Program) (o : Oper) (ρ : Operand → Value) (H : Heap) : Option (Value × Heap) :=
 let keep (v : Option Value) : Option (Value × Heap) := v.map fun v => (v, H)
 let plain : Option (Value × Heap) := b8T P o ρ H
 match o.op with
 | .move x | .assign x => some (ρ x, H)
 | .pick c a b => match ρ c with | .bool t => some (if t then ρ a else ρ b, H) | _ => none
 | .alloc t => (jB P t).bind fun z => if jC z then qS P H t z else none
 | .box t x => wP P H t (ρ x)
 | .build t parts =>
   let ps := parts.toList.map fun (i, x) => (i, ρ x)
   if (jB P t).any jC && ps.all (fun x => x.2.cells.toList.all oneCell) then
    (P.built t ps).map fun cs => (.agg cs, H)
   else none
 | .buildSlice t len parts =>
   (iF P t).bind fun elem => (iD P elem).bind fun size => (jB P elem).bind fun z =>
   let ps := parts.toList.map fun (i, x) => (i, ρ x)
   if len == 0 && ps.isEmpty && size != 0 then some (.slice (some ⟨H.length, 0, some 0⟩) 0 size, rJ H elem []) else
   if jC z && ps.all (fun x => x.2.cells.toList.all oneCell) && len * size ≤ 2 ^ 24 && len * size != 0 && z.cells.size == size then
    (Instr.fill (fun i => some (i * size, size)) ((Array.range (len * size)).map (z.cells[· % z.cells.size]!)) ps).map fun cs =>
      (.slice (some ⟨H.length, 0, some cs.toList.length⟩) len size, rJ H elem cs.toList)
   else none
 | .makeSlice t n c =>
   (iF P t).bind fun elem => (iD P elem).bind fun size => (nK P elem).bind fun bytes => (jB P elem).bind fun z =>
   match ρ n, ρ c with
   | .int .i64 a, .int .i64 b =>
     if jC z && decide (a ≤ b) && 0 ≤ a && b * (bytes + 1) ≤ (oP : Int) && size != 0 && z.cells.size == size then
      let cs := if size = 1 then List.replicate b.toNat (z.cells[0]!) else (madeCells z.cells (b.toNat * size)).toList
      some (.slice (some ⟨H.length, 0, some cs.length⟩) a.toNat size, rJ H elem cs)
     else none
   | _, _ => none
 | .load t a => keep (lL P H t (ρ a))
 | .store t a x => (qE P H t (ρ a) (ρ x)).map fun H => (undef, H)
 | .nilCheck x => match ρ x with
   | .pointer (some a) => some (.pointer (some a), H)
   | .func (.func f) a b => some (.func (.func f) a b, H)
   | _ => none
 | .fieldAddr s x f => match ρ x with
   | .pointer (some ⟨A, i, some e⟩) => (oI P s f).bind fun fd => (iD P fd.type).bind fun n => if n == 0 then none else some (.pointer (some ⟨A, i + fd.offset, some e⟩), H)
   | _ => none
 | .indexAddr t x ix => match P.underlying t, ρ x, ρ ix with
   | some (.slice elem), .slice (some ⟨A, i, some e⟩) n _, .int _ j => (iD P elem).bind fun size =>
     if 0 ≤ j && j < n then some (.pointer (some ⟨A, i + j.toNat * size, some e⟩), H) else none
   | some (.array n elem), .pointer (some ⟨A, i, some e⟩), .int _ j => (iD P elem).bind fun size =>
     if 0 ≤ j && j < n then some (.pointer (some ⟨A, i + j.toNat * size, some e⟩), H) else none
   | some (.array n elem), .pointer (some ⟨A, i, none⟩), .int _ j => (iD P elem).bind fun size =>
     if 0 ≤ j && j < n then some (.pointer (some ⟨A, i + j.toNat * size, none⟩), H) else none
   | _, _, _ => none
 | .slice t x lo hi none => if flat (ρ x) then plain else match jM P t with
   | some (n, elem) => keep (a4E P H n elem (ρ x) (lo.map ρ) (hi.map ρ))
   | none => keep (wG P t (ρ x) (lo.map ρ) (hi.map ρ))
 | .field t x f => if flat (ρ x) then plain else
   match ρ x with
   | .agg cs => (oI P t f).bind fun fd => match jK P fd.type with
     | some true => (iD P fd.type).map fun n => (.agg (cs.extract fd.offset (fd.offset + n)), H)
     | some false => (cs[fd.offset]?).map fun v => (v, H)
     | none => none
   | _ => none
 | .extract t i => match ρ t with
   | .tuple vs => (vs[i]?).map fun v => (v, H)
   | _ => none
 | .makeFunc fn first captured => match fn with
   | .func f => if (first ++ captured).toList.all (fun x => pL (ρ x)) then some (.func (.func f) (first.map ρ) (captured.map ρ), H) else none
   | _ => none
 | .binOp op t x y _ => match op, ρ x, ρ y with
   | .eql, .slice (some _) _ _, .slice none 0 0 => if ((P.underlying t).map uR) == some true then some (.bool false, H) else none
   | .neq, .slice (some _) _ _, .slice none 0 0 => if ((P.underlying t).map uR) == some true then some (.bool true, H) else none
   | op, .int k a, .int k' b => if k = k' then (match mI op k a b with | some v => some (v, H) | none => plain) else plain
   | .eql, .pointer (some _), .pointer none => if tA P t then some (.bool false, H) else none
   | .neq, .pointer (some _), .pointer none => if tA P t then some (.bool true, H) else none
   | .eql, .pointer (some ⟨A, i, some e⟩), .pointer (some ⟨A', i', some e'⟩) => if tA P t && A == A' && i == i' && e == e' then some (.bool true, H) else none
   | .neq, .pointer (some ⟨A, i, some e⟩), .pointer (some ⟨A', i', some e'⟩) => if tA P t && A == A' && i == i' && e == e' then some (.bool false, H) else none
   | _, _, _ => plain
 | .call c => match c.callee with
   | .builtin .len => if c.args.size == 1 && c.argTypes.size == 1 then
      match (P.underlying (c.argTypes.getD 0 0)), ρ (c.args.getD 0 (.tmp 0)) with
      | some (.slice _), .slice a n k => keep (wL H (.slice a n k))
      | some .string, .string s => keep (wL H (.string s))
      | some (.map _ _), .map r => keep (wL H (.map r))
      | _, _ => none
     else none
   | .builtin .append => if c.args.size == 2 && c.argTypes.size == 2 && ((P.underlying (c.argTypes.getD 1 0)).map pO) == some true then
      nH P H (c.argTypes.getD 0 0) (ρ (c.args.getD 0 (.tmp 0))) (ρ (c.args.getD 1 (.tmp 0)))
     else none
   | .builtin .copy => if c.args.size == 2 && c.argTypes.size == 2 then a0y P H (c.argTypes.getD 0 0) (ρ (c.args.getD 0 (.tmp 0))) (ρ (c.args.getD 1 (.tmp 0))) else none
   | .builtin .clear => if c.args.size == 1 && c.argTypes.size == 1 then sP P H (c.argTypes.getD 0 0) (ρ (c.args.getD 0 (.tmp 0))) else none
   | .builtin .cap => plain
   | .builtin .unsafeSliceData => if c.args.size == 1 && c.argTypes.size == 1 then match ρ (c.args.getD 0 (.tmp 0)) with
      | .slice (some a) n _ => if n == 0 then none else some (.pointer (some a), H)
      | _ => none
     else none
   | .builtin .unsafeString => if c.args.size == 2 && c.argTypes.size == 2 then uQ P H (c.argTypes.getD 0 0) (ρ (c.args.getD 0 (.tmp 0))) (ρ (c.args.getD 1 (.tmp 0))) else none
   | .builtin .max => plain
   | .builtin .min => plain
   | _ => none
 | .unOp op _ x => match op, ρ x with
   | .not, .bool b => some (.bool (!b), H)
   | _, _ => plain
 | .makeMap t r => pG P H t (r.map ρ)
 | .lookup t x k c => keep (pC P H t (ρ x) (ρ k) c)
 | .mapUpdate t m k v => (a0L P H t (ρ m) (ρ k) (ρ v)).map fun H => (undef, H)
 | .mapEntry t m k => sL P H t (ρ m) (ρ k)
 | .entryStore _ m b v => (rM H (ρ m) (ρ b) (ρ v)).map fun H => (undef, H)
 | .convert s t x => if flat (ρ x) && !(kR P t) then plain else match ρ x with
   | .slice (some ⟨A, i, some e⟩) n _ => if kR P s && nS P t then keep ((jA H A i e n).bind fun l => (mD l).map .string) else none
   | .string b => if kR P t && nS P s && b.size ≤ 2 ^ 40 then (iF P t).bind fun elem => some (.slice (some ⟨H.length, 0, some b.size⟩) b.size 1, b6I H elem (b.data.toList.map fun c => .int .u8 c.toNat)) else none
   | .pointer (some ⟨A, 0, some e⟩) => if a3A P H s t A e then some (.pointer (some ⟨A, 0, some e⟩), H) else none
   | _ => none
 | .index _ _ _ => plain
 | .makeInterface _ _ => plain
 | _ => none
def nQ {α : Type} (b : Bool) (no : α) (x : α) : α := Bool.rec (motive := fun _ => α) no x b
def a6b {α : Type} (cs : List α) : Nat → Bool := List.rec (motive := fun _ => Nat → Bool) (fun e => Nat.beq e 0) (fun _ _ ih e => Nat.rec (motive := fun _ => Bool) true (fun m _ => ih m) e) cs
def a3V {α : Type} (cs : List α) : Nat → Bool := List.rec (motive := fun _ => Nat → Bool) (fun e => Nat.beq e 0) (fun _ _ ih e => Nat.rec (motive := fun _ => Bool) false (fun m _ => ih m) e) cs
def a0P {α : Type} (cs : List α) : Nat → Option α := List.rec (motive := fun _ => Nat → Option α) (fun _ => none) (fun v _ ih e => Nat.rec (motive := fun _ => Option α) (some v) (fun m _ => ih m) e) cs
def a2x {α : Type} (cs : List α) : Nat → (List α → Rs) → Rs := List.rec (motive := fun _ => Nat → (List α → Rs) → Rs) (fun n K => Nat.rec (motive := fun _ => Rs) (K []) (fun _ _ => .no) n) (fun v _ ih n K => Nat.rec (motive := fun _ => Rs) (K []) (fun m _ => ih m fun l => K (v :: l)) n) cs
def b0l {α : Type} (cs : List α) : Nat → List α := List.rec (motive := fun _ => Nat → List α) (fun _ => []) (fun v t ih n => Nat.rec (motive := fun _ => List α) (v :: t) (fun m _ => ih m) n) cs
def kIx (k : IntKind) : Nat := IntKind.rec (motive := fun _ => Nat) 0 1 2 3 4 5 6 7 k
def hMv (x : LArg) (f : Fr) (H : Heap) : Rs := oB (mJ f x) fun v => .ok v H
def b5q (c a b : LArg) (f : Fr) (H : Heap) : Rs := match mJ f c with
 | .bool t => oB (mJ f (Bool.rec (motive := fun _ => LArg) b a t)) fun v => .ok v H
 | _ => .no
def oV (v : Option Value) (H : Heap) : Rs := Option.rec (motive := fun _ => Rs) .no (fun v => .th v H) v
def c0j (g : IntKind → Int → Int → Option Value) (k : IntKind) (a : Int) (H : Heap) (y : Value) : Rs := match y with
 | .int k' b => nQ (Nat.beq (kIx k) (kIx k')) .no (oV (g k a b) H)
 | _ => .no
def c0U (g : IntKind → Int → Int → Option Value) (x y : LArg) (f : Fr) (H : Heap) : Rs := match mJ f x with
 | .int k a => c0j g k a H (mJ f y)
 | _ => .no
def c5z (x : LArg) (f : Fr) (H : Heap) : Rs := match mJ f x with
 | .bool b => .ok (.bool (Bool.rec (motive := fun _ => Bool) true false b)) H
 | _ => .no
def b8S (b : Option Blk) (i e : Nat) (H : Heap) : Rs := match b with
 | some (.cells cs _ _ lo _) => nQ (Nat.ble lo e) .no (nQ (a6b cs e) .no (nQ (Nat.ble (Nat.succ i) e) .no (Option.rec (motive := fun _ => Rs) .no (fun v => oB v fun v => .ok v H) (a0P cs i))))
 | _ => .no
def c1i (b : Option Blk) (i : Nat) (H : Heap) : Rs := match b with
 | some (.cells cs _ false lo 1) => nQ (a6b cs lo) .no (Option.rec (motive := fun _ => Rs) .no (fun v => oB v fun v => .ok v H) (a0P cs i))
 | _ => .no
def b3g (x : LArg) (f : Fr) (H : Heap) : Rs := match mJ f x with
 | .pointer (some ⟨A, i, some e⟩) => b8S (iQ H A) i e H
 | .pointer (some ⟨A, i, none⟩) => c1i (iQ H A) i H
 | _ => .no
def b8e (b : Option Blk) (n i e : Nat) (H : Heap) : Rs := match b with
 | some (.cells cs _ _ lo _) => nQ (Nat.ble lo e) .no (nQ (a6b cs e) .no (nQ (Nat.ble (Nat.add i n) e) .no (a2x (b0l cs i) n fun l => .ok (.agg ⟨l⟩) H)))
 | _ => .no
def b1n (n : Nat) (x : LArg) (f : Fr) (H : Heap) : Rs := match mJ f x with
 | .pointer (some ⟨A, i, some e⟩) => b8e (iQ H A) n i e H
 | _ => .no
def stB (b : Option Blk) (n A i e : Nat) (vs : List Value) (H : Heap) : Rs := match b with
 | some (.cells cs ty true lo ver) => nQ (a3V vs n) .no (nQ (vs.all oneCell) .no (nQ (a3V cs e) .no (nQ (Nat.ble (Nat.add i n) e) .no (nQ (Nat.ble lo e) .no
    (.th undef (hset H A (.cells (iW cs i vs) ty true e ver)))))))
 | _ => .no
def hSt (n : Nat) (x y : LArg) (f : Fr) (H : Heap) : Rs := match mJ f x with
 | .pointer (some ⟨A, i, some e⟩) => stB (iQ H A) n A i e (mJ f y).cells.toList H
 | _ => .no
def hFa (off : Nat) (x : LArg) (f : Fr) (H : Heap) : Rs := match mJ f x with
 | .pointer (some ⟨A, i, some e⟩) => kA (Nat.add i off) fun i => .ok (.pointer (some ⟨A, i, some e⟩)) H
 | _ => .no
def ixP (A i e size n : Nat) (H : Heap) (j : Value) : Rs := match j with
 | .int _ (.ofNat j) => nQ (Nat.blt j n) .no (kA (Nat.add i (Nat.mul j size)) fun i => .ok (.pointer (some ⟨A, i, some e⟩)) H)
 | _ => .no
def c0X (size : Nat) (x i : LArg) (f : Fr) (H : Heap) : Rs := match mJ f x with
 | .slice (some ⟨A, a, some e⟩) n _ => ixP A a e size n H (mJ f i)
 | _ => .no
def ixG (A i size n : Nat) (H : Heap) (j : Value) : Rs := match j with
 | .int _ (.ofNat j) => nQ (Nat.blt j n) .no (kA (Nat.add i (Nat.mul j size)) fun i => .ok (.pointer (some ⟨A, i, none⟩)) H)
 | _ => .no
def c1c (n size : Nat) (x i : LArg) (f : Fr) (H : Heap) : Rs := match mJ f x with
 | .pointer (some ⟨A, a, some e⟩) => ixP A a e size n H (mJ f i)
 | .pointer (some ⟨A, a, none⟩) => ixG A a size n H (mJ f i)
 | _ => .no
def okV (v : Option Value) (H : Heap) : Rs := Option.rec (motive := fun _ => Rs) .no (fun v => oB v fun v => .ok v H) v
def c1k (i : Nat) (x : LArg) (f : Fr) (H : Heap) : Rs := match mJ f x with
 | .tuple ⟨vs⟩ => okV (a0P vs i) H
 | _ => .no
def hF1 (off : Nat) (x : LArg) (f : Fr) (H : Heap) : Rs := match mJ f x with
 | .agg ⟨cs⟩ => okV (a0P cs off) H
 | _ => .no
def hFn (off n : Nat) (x : LArg) (f : Fr) (H : Heap) : Rs := match mJ f x with
 | .agg ⟨cs⟩ => a2x (b0l cs off) n fun l => .ok (.agg ⟨l⟩) H
 | _ => .no
def c1Q (x : LArg) (f : Fr) (H : Heap) : Rs := match mJ f x with
 | .slice _ n _ => .th (goInt n) H
 | _ => .no
def b4d (x : LArg) (f : Fr) (H : Heap) : Rs := match mJ f x with
 | .string s => .th (goInt s.size) H
 | _ => .no
def c4Z (b : Option Blk) (elem size bytes A i e k : Nat) (n : Nat) (l : List Value) (P : Program) (H : Heap) : Rs := match b with
 | some (.cells cs ty true lo ver) => nQ (Bool.rec (motive := fun _ => Bool) (iD P ty == some size) true (Nat.beq ty elem)) .no (nQ (a3V cs e) .no (nQ (Nat.ble lo e) .no
    (nQ (Nat.beq (Nat.add i (Nat.mul k size)) e)
      (nQ (Nat.beq n 0) (nQ (Nat.ble (Nat.add i (Nat.mul (Nat.add k n) size)) e) .no (.th (.slice (some ⟨A, i, some e⟩) (k + n) size) (hset H A (.cells (iW cs (i + k * size) l) ty true e ver)))) .no)
      (nQ (Nat.ble (Nat.mul (Nat.add k n) (Nat.succ bytes)) oP) .no (.th (.slice (some ⟨A, i, some (e + l.length)⟩) (k + n) size) (hset H A (.cells (a4Q cs l) ty true lo (Bool.rec (motive := fun _ => Nat) 2 ver (Nat.beq ty elem)))))))))
 | _ => .no
def c4S (P : Program) (elem size bytes : Nat) (s : Value) (H : Heap) (n : Nat) (l : List Value) : Rs := match s with
 | .slice none k c => nQ (Nat.beq k 0) .no (nQ (Nat.beq c 0) .no (nQ (Nat.ble (Nat.mul n (Nat.succ bytes)) oP) .no (nQ (Nat.beq n 0) (.th (.slice (some ⟨H.length, 0, some l.length⟩) n size) (rJ H elem l)) (.ok (.slice none 0 0) H))))
 | .slice (some ⟨A, i, some e⟩) k _ => c4Z (iQ H A) elem size bytes A i e k n l P H
 | _ => .no
def c0E (P : Program) (elem size bytes : Nat) (x y : LArg) (f : Fr) (H : Heap) : Rs := match yU H size (mJ f y) with
 | some (n, l) => c4S P elem size bytes (mJ f x) H n l
 | none => .no
def c1P (t : TypeId) (cs : List Value) (_ : Fr) (H : Heap) : Rs := .th (.pointer (some ⟨H.length, 0, some cs.length⟩)) (rJ H t cs)
def evF (f : Fr) : Operand → Value
 | .tmp t => nT (kP t) f
 | .const v => v
 | .global g => .pointer (some ⟨g, 0, none⟩)
 | .func k => .func (.func k) #[] #[]
def c5j (P : Program) (o : Oper) (f : Fr) (H : Heap) : Rs := match c1t P o (evF f) H with
 | some (v, H1) => .th v H1
 | none => .no
def a3c {α : Type} (f : Fr) (l : List LArg) : (List Value → α) → α := List.rec (motive := fun _ => (List Value → α) → α) (fun K => K []) (fun x _ ih K => oB (mJ f x) fun v => ih fun l => K (v :: l)) l
structure Calls' where
 fn : Pth → FuncId → List Value → Heap → Rs
 rd : Nat → List Value → Heap → Rs
def c0F (C : Calls') (k : FuncId) (p : Pth) (args : List LArg) (f : Fr) (H : Heap) : Rs := a3c f args fun l => C.fn p k l H
def a9N (C : Calls') (l : List Value) (H : Heap) (g : Value) : Rs := match g with
 | .func (.func k) ⟨a⟩ ⟨b⟩ => kA k fun k => lK (kP k) fun p => C.fn p k (a4Q a (a4Q l b)) H
 | .func (.yield L) _ _ => C.rd L l H
 | _ => .no
def c1s (C : Calls') (g : LArg) (args : List LArg) (f : Fr) (H : Heap) : Rs := a3c f args fun l => a9N C l H (mJ f g)
def c6s (_ : Fr) (_ : Heap) : Rs := .no
def opF (P : Program) (C : Calls') (o : LOp) : Fr → Heap → Rs :=
 LOp.rec (motive := fun _ => Fr → Heap → Rs) c6s hMv b5q c0U c5z b3g b1n hSt hFa c0X c1c c1k hF1 hFn c1Q b4d (c0E P) c1P (c0F C) (c1s C) (c5j P) o
inductive Rf where
 | no
 | ok (f : Fr) (H : Heap)
def uJ {α : Type} (d : Option Pth) (v : Value) (f : Fr) (K : Fr → α) : α := Option.rec (motive := fun _ => α) (K f) (fun p => pP v p f K) d
def b0H {α : Type} (no : α) (d : Option Pth) (f : Fr) (K : Fr → Heap → α) (r : Rs) : α :=
 Rs.rec (motive := fun _ => α) no (fun v H => uJ d v f fun f => K f H) (fun v H => xO v fun v => nJ H fun H => uJ d v f fun f => K f H) r
def isB (v : Value) (w : Bool) : Bool := match v with
 | .bool b => Bool.rec (motive := fun _ => Bool) (Bool.rec (motive := fun _ => Bool) true false w) w b
 | _ => false
def xC (P : Program) (C : Calls') (ops : LOps) : Fr → Heap → Rf := LOps.rec (motive := fun _ => Fr → Heap → Rf)
 (fun f H => .ok f H)
 (fun d o _ ih f H => b0H .no d f ih (opF P C o f H))
 (fun p w d o _ ih f H => nQ (isB (nT p f) w) (uJ d undef f fun f => ih f H) (b0H .no d f ih (opF P C o f H))) ops
inductive Rt where
 | no
 | ok (tr : List (Fr × Heap × Value)) (f : Fr) (H : Heap)
def b0y (tr : List (Fr × Heap × Value)) (f0 : Fr) (H0 : Heap) (d : Option Pth) (K : List (Fr × Heap × Value) → Fr → Heap → Rt) (r : Rs) : Rt :=
 Rs.rec (motive := fun _ => Rt) .no (fun v H => uJ d v f0 fun f => K ((f0, H0, v) :: tr) f H) (fun v H => xO v fun v => nJ H fun H => uJ d v f0 fun f => K ((f0, H0, v) :: tr) f H) r
def qW (P : Program) (C : Calls') (ops : LOps) : List (Fr × Heap × Value) → Fr → Heap → Rt := LOps.rec (motive := fun _ => List (Fr × Heap × Value) → Fr → Heap → Rt)
 (fun tr f H => .ok tr f H)
 (fun d o _ ih tr f H => b0y tr f H d ih (opF P C o f H))
 (fun p w d o _ ih tr f H => nQ (isB (nT p f) w) (uJ d undef f fun f1 => ih ((f, H, undef) :: tr) f1 H) (b0y tr f H d ih (opF P C o f H))) ops
def b8m (v : Value) (r : Rs) : Bool := Rs.rec (motive := fun _ => Bool) false (fun w _ => veq w v) (fun w _ => veq w v) r
def b3L (f : Fr) (g : Option (Pth × Bool)) : Bool := match g with
 | none => true
 | some (p, w) => isB (nT p f) w
def b3Z (P : Program) (C : Calls') (tr : List (Fr × Heap × Value)) (H1 : Heap) (x : Nat × Option Nat × Option (Pth × Bool) × LOp) : Bool :=
 match a0P tr x.1 with
 | some (f, _, v) => nQ (b3L f x.2.2.1) true (match x.2.1 with
   | none => b8m v (opF P C x.2.2.2 f H1)
   | some m => match a0P tr m with
     | some (_, H, _) => b8m v (opF P C x.2.2.2 f H)
     | none => false)
 | none => false
def b5N {α : Type} (p : α → Bool) (l : List α) : Bool := List.rec (motive := fun _ => Bool) true (fun x _ ih => nQ (p x) false ih) l
inductive Rc where
 | no
 | ok (e : Ex) (f : Fr) (H : Heap)
def c3v (r : Rf) : Rc := Rf.rec (motive := fun _ => Rc) .no (fun f H => .ok .normal f H) r
def c0h (P : Program) (C : Calls') (tab : List (Nat × Option Nat × Option (Pth × Bool) × LOp)) (r : Rt) : Rc := Rt.rec (motive := fun _ => Rc) .no (fun tr f H => nQ (b5N (b3Z P C tr H) tab) .no (.ok .normal f H)) r
def oU {α : Type} (no : α) (l : List Value) : List Pth → Fr → (Fr → α) → α := List.rec (motive := fun _ => List Pth → Fr → (Fr → α) → α) (fun _ f K => K f)
 (fun v _ ih ps f K => List.rec (motive := fun _ => α) no (fun p ps _ => pP v p f fun f => ih ps f K) ps) l
def a3r (H : Heap) (f : Fr) (r : LRes) : Rs := LRes.rec (motive := fun _ => Rs) (fun p => oB (nT p f) fun v => .ok v H) (fun p => b3g (.t p) f H) (fun n p => b1n n (.t p) f H) r
def b4r (H : Heap) (f : Fr) (l : List LRes) : (List Value → Rs) → Rs := List.rec (motive := fun _ => (List Value → Rs) → Rs) (fun K => K []) (fun r _ ih K => Rs.rec (motive := fun _ => Rs) .no (fun v _ => ih fun l => K (v :: l)) (fun _ _ => .no) (a3r H f r)) l
def noT (v : Value) : Bool := match v with | .tuple _ => false | _ => true
def a6P (l : List LRes) (f : Fr) (H : Heap) : Rs := match l with
 | [r] => a3r H f r
 | l => b4r H f l fun vs => nQ (b5N noT vs) .no (.ok (.tuple ⟨vs⟩) H)
def c0m (l : List LRes) (r : Rc) : Rs := match r with
 | .ok .normal f H => a6P l f H
 | .ok .ret f H => a6P l f H
 | _ => .no
abbrev pT := List LEnv → LCode → Fr → Heap → Rc
def c2d (P : Program) (k : FuncId) (args : List Value) (H : Heap) : Rs := match pR P k args H with
 | some (v, H1) => .th v H1
 | none => .no
def mN (T : LT) (ih : pT) (E : List LEnv) (p : Pth) (args : List Value) (H : Heap) : Rs := match a2c p T with
 | some g => oU .no args g.ps .e fun f => c0m g.res (ih E g.body f H)
 | none => .no
def b4p (P : Program) (T : LT) (ih : pT) (E : List LEnv) (p : Pth) (k : FuncId) (args : List Value) (H : Heap) : Rs := match a2c p T with
 | some g => oU .no args g.ps .e fun f => c0m g.res (ih E g.body f H)
 | none => c2d P k args H
def b6A (E : List LEnv) (L : Nat) : Option LEnv := List.rec (motive := fun _ => Option LEnv) none (fun e _ ih => nQ (Nat.beq e.L L) ih (some e)) E
def b9H (e : Ex) : Option Code := match e with | .normal => none | .ret => some .ret | .exit id => some (.exit id)
def a1Y (L : Nat) (e : Ex) (H : Heap) : Rs := match iQ H L with
 | some (.loop ⟨_, _, fn, tmps, ps, a, b, d⟩) => match b9H e with
   | none => .th (.bool true) (hset H L (.loop ⟨.ready, none, fn, tmps, ps, a, b, d⟩))
   | some c => .th (.bool false) (hset H L (.loop ⟨.done, some c, fn, tmps, ps, a, b, d⟩))
 | _ => .no
def b1B (L : Nat) (r : Rc) : Rs := match r with
 | .ok e _ H => a1Y L e H
 | .no => .no
def a0f (ih : pT) (E : List LEnv) (en : LEnv) (f : Fr) (H : Heap) : Rs := match iQ H en.L with
 | some (.loop ⟨.ready, p, fn, tmps, ps, a, b, d⟩) => nJ (hset H en.L (.loop ⟨.busy, p, fn, tmps, ps, a, b, d⟩)) fun H => b1B en.L (ih E en.b f H)
 | _ => .no
def sM (ih : pT) (E : List LEnv) (en : LEnv) (r : Rc) : Rs := match r with
 | .ok .normal f H => a0f ih E en f H
 | _ => .no
def b0e (ih : pT) (E : List LEnv) (L : Nat) (args : List Value) (H : Heap) : Rs := match b6A E L with
 | some en => match iQ H L with
   | some (.loop ⟨.ready, _, _, ⟨tmps⟩, ps, _, _, _⟩) => nQ (a3V args ps.size) .no (oU .no tmps en.ps .e fun f => oU .no args en.pp f fun f => sM ih E en (ih E en.a f H))
   | _ => .no
 | none => .no
def a0a (P : Program) (T : LT) (ih : pT) (E : List LEnv) : Calls' := ⟨b4p P T ih E, b0e ih E⟩
def c5S (_ : Fr) (_ : Heap) : Rc := .no
def c2Q (f : Fr) (H : Heap) : Rc := .ok .normal f H
def c5E (P : Program) (T : LT) (ih : pT) (E : List LEnv) (ops : LOps) (f : Fr) (H : Heap) : Rc := c3v (xC P (a0a P T ih E) ops f H)
def c6c (P : Program) (T : LT) (ih : pT) (E : List LEnv) (ops : LOps) (tab : List (Nat × Option Nat × Option (Pth × Bool) × LOp)) (f : Fr) (H : Heap) : Rc := c0h P (a0a P T ih E) tab (qW P (a0a P T ih E) ops [] f H)
def b8K (ih : pT) (E : List LEnv) (b : LCode) (r : Rc) : Rc := match r with
 | .ok .normal f H => ih E b f H
 | r => r
def c6q (ih : pT) (E : List LEnv) (a b : LCode) (_ _ : Fr → Heap → Rc) (f : Fr) (H : Heap) : Rc := b8K ih E b (ih E a f H)
def b6h (ih : pT) (E : List LEnv) (c : LArg) (x y : LCode) (_ _ : Fr → Heap → Rc) (f : Fr) (H : Heap) : Rc := match mJ f c with
 | .bool t => ih E (Bool.rec (motive := fun _ => LCode) y x t) f H
 | _ => .no
def c3c (id : Nat) (r : Rc) : Rc := match r with
 | .ok (.exit i) f H => .ok (Bool.rec (motive := fun _ => Ex) (.exit i) .normal (Nat.beq i id)) f H
 | r => r
def c1L (ih : pT) (E : List LEnv) (id : Nat) (b : LCode) (_ : Fr → Heap → Rc) (f : Fr) (H : Heap) : Rc := c3c id (ih E b f H)
def c3X (ih : pT) (E : List LEnv) (b : LCode) (_ : Fr → Heap → Rc) (f : Fr) (H : Heap) : Rc := b8K ih E (.loop b) (ih E b f H)
def c2R (id : Nat) (f : Fr) (H : Heap) : Rc := .ok (.exit id) f H
def c6a (f : Fr) (H : Heap) : Rc := .ok .ret f H
def frL {α : Type} (f : Fr) (ps : List Pth) : (List Value → α) → α := List.rec (motive := fun _ => (List Value → α) → α) (fun K => K []) (fun p _ ih K => oB (nT p f) fun v => ih fun l => K (v :: l)) ps
def tN (L : Nat) (f : Fr) (H : Heap) : Rc := match iQ H L with
 | some (.loop ⟨.ready, none, fn, tmps, ps, a, b, d⟩) => nJ (hset H L (.loop ⟨.exhausted, none, fn, tmps, ps, a, b, d⟩)) fun H => .ok .normal f H
 | some (.loop ⟨.done, none, fn, tmps, ps, a, b, d⟩) => nJ (hset H L (.loop ⟨.exhausted, none, fn, tmps, ps, a, b, d⟩)) fun H => .ok .normal f H
 | some (.loop ⟨.done, some .ret, fn, tmps, ps, a, b, d⟩) => nJ (hset H L (.loop ⟨.exhausted, some .ret, fn, tmps, ps, a, b, d⟩)) fun H => .ok .ret f H
 | some (.loop ⟨.done, some (.exit id), fn, tmps, ps, a, b, d⟩) => nJ (hset H L (.loop ⟨.exhausted, some (.exit id), fn, tmps, ps, a, b, d⟩)) fun H => .ok (.exit id) f H
 | _ => .no
def b2D (L : Nat) (f : Fr) (r : Rs) : Rc := match r with
 | .no => .no
 | .ok _ H => tN L f H
 | .th _ H => nJ H fun H => tN L f H
def b0S (T : LT) (ih : pT) (E : List LEnv) (f : Fr) (L : Nat) (k : FuncId) (args : List Value) (H : Heap) : Rc := lK (kP k) fun p => b2D L f (mN T ih E p args H)
def a8K (T : LT) (ih : pT) (E : List LEnv) (g : LArg) (ps pp : List Pth) (params : Array Tmp) (assign body : Code) (a b : LCode) (_ _ : Fr → Heap → Rc) (f : Fr) (H : Heap) : Rc := match mJ f g with
 | .func (.func k) ⟨x⟩ ⟨y⟩ => kA H.length fun L => frL f ps fun l => nJ (H.cons (.loop ⟨.ready, none, 0, ⟨l⟩, params, assign, body, 0⟩)) fun H1 =>
    kA k fun k => b0S T ih (⟨L, ps, pp, a, b⟩ :: E) f L k (a4Q x (.func (.yield L) #[] #[] :: y)) H1
 | _ => .no
def b0n (P : Program) (T : LT) (ih : pT) (E : List LEnv) (c : LCode) : Fr → Heap → Rc :=
 LCode.rec (motive := fun _ => Fr → Heap → Rc) c5S c2Q (c5E P T ih E) (c6c P T ih E) (c6q ih E) (b6h ih E) (c1L ih E) (c3X ih E) c2R c6a (a8K T ih E) c
def exF (P : Program) (T : LT) (n : Nat) : pT := Nat.rec (motive := fun _ => pT) (fun _ _ _ _ => .no) (fun _ ih => b0n P T ih) n
section
variable {α : Type}
def lO (x : Operand) (K : LArg → α) : α := match x with
 | .tmp t => lK (kP t) fun p => K (.t p)
 | .const v => K (.c v)
 | .global g => K (.c (.pointer (some ⟨g, 0, none⟩)))
 | .func k => K (.c (.func (.func k) #[] #[]))
def a5l (l : List Operand) : (List LArg → α) → α := List.rec (motive := fun _ => (List LArg → α) → α) (fun K => K []) (fun x _ ih K => lO x fun x => ih fun l => K (x :: l)) l
def a2F (o : Option Nat) (d : α) (K : Nat → α) : α := match o with
 | some n => kA n K
 | none => d
def c5p (k : IntKind) (a b : Int) : Option Value := some (.int k (vH k (b7j a b)))
def c5Z (k : IntKind) (a b : Int) : Option Value := some (.int k (vH k (b9i a b)))
def c3o (a b : Int) : Int := match a, b with
 | .ofNat a, .ofNat b => .ofNat (Nat.mul a b)
 | a, b => a * b
def c4W (k : IntKind) (a b : Int) : Option Value := some (.int k (vH k (c3o a b)))
def c3P (a b : Int) : Int := match a, b with
 | .ofNat a, .ofNat b => .ofNat (Nat.div a b)
 | a, b => a.tdiv b
def c2N (a b : Int) : Int := match a, b with
 | .ofNat a, .ofNat b => .ofNat (Nat.mod a b)
 | a, b => a.tmod b
def b9b (k : IntKind) (a b : Int) : Option Value := match eqI b 0 with | true => none | false => some (.int k (vH k (c3P a b)))
def b9C (k : IntKind) (a b : Int) : Option Value := match eqI b 0 with | true => none | false => some (.int k (c2N a b))
def c5u (_ : IntKind) (a b : Int) : Option Value := some (.bool (eqI a b))
def c6d (_ : IntKind) (a b : Int) : Option Value := some (.bool (!eqI a b))
def c5n (_ : IntKind) (a b : Int) : Option Value := some (.bool (ltI a b))
def c5I (_ : IntKind) (a b : Int) : Option Value := some (.bool (!ltI b a))
def c5w (_ : IntKind) (a b : Int) : Option Value := some (.bool (ltI b a))
def c5v (_ : IntKind) (a b : Int) : Option Value := some (.bool (!ltI a b))
def b8w (op : BinOp) : Option (IntKind → Int → Int → Option Value) := match op with
 | .add => some c5p
 | .sub => some c5Z
 | .mul => some c4W
 | .quo => some b9b
 | .rem => some b9C
 | .eql => some c5u
 | .neq => some c6d
 | .lss => some c5n
 | .leq => some c5I
 | .gtr => some c5w
 | .geq => some c5v
 | _ => none
def c0z (d : Option TypeDesc) : Bool := match d with | some (.int _) => true | _ => false
def c6A (P : Program) (s : TypeId) (f : Nat) (d : α) (K1 : Nat → α) (Kn : Nat → Nat → α) : α := match oI P s f with
 | some fd => kA fd.offset fun off => match jK P fd.type with
   | some true => a2F (iD P fd.type) d fun n => Kn off n
   | some false => K1 off
   | none => d
 | none => d
def b4c (P : Program) (o : Oper) (c : Call) (K : LOp → α) : α := match c.callee with
 | .value (.func k) => lK (kP k) fun p => a5l c.args.toList fun l => K (.callF k p l)
 | .value g => lO g fun g => a5l c.args.toList fun l => K (.callV g l)
 | .builtin .len => nQ (c.args.size == 1 && c.argTypes.size == 1) (K (.gen o)) (match P.underlying (c.argTypes.getD 0 0) with
    | some (.slice _) => lO (c.args.getD 0 (.tmp 0)) fun x => K (.len x)
    | some .string => lO (c.args.getD 0 (.tmp 0)) fun x => K (.slen x)
    | _ => K (.gen o))
 | .builtin .append => nQ (c.args.size == 2 && c.argTypes.size == 2 && ((P.underlying (c.argTypes.getD 1 0)).map pO) == some true) (K (.gen o))
    (match iF P (c.argTypes.getD 0 0) with
     | some elem => a2F (iD P elem) (K (.gen o)) fun size => a2F (nK P elem) (K (.gen o)) fun bytes => match jB P elem with
       | some z => nQ (z.cells.size == size && size != 0) (K (.gen o)) (kA elem fun elem => lO (c.args.getD 0 (.tmp 0)) fun x => lO (c.args.getD 1 (.tmp 0)) fun y => K (.app elem size bytes x y))
       | none => K (.gen o)
     | none => K (.gen o))
 | _ => K (.gen o)
def c4z (P : Program) (o : Oper) (K : LOp → α) : α := match o.op with
 | .move x => lO x fun x => K (.mv x)
 | .assign x => lO x fun x => K (.mv x)
 | .pick c a b => lO c fun c => lO a fun a => lO b fun b => K (.pick c a b)
 | .binOp op t x y _ => nQ (c0z (P.underlying t)) (K (.gen o)) (match b8w op with
   | some g => lO x fun x => lO y fun y => K (.bin g x y)
   | none => K (.gen o))
 | .load t x => match jK P t with
   | some true => a2F (iD P t) (K (.gen o)) fun n => lO x fun x => K (.ldn n x)
   | some false => lO x fun x => K (.ld1 x)
   | none => K (.gen o)
 | .store t x y => a2F (iD P t) (K (.gen o)) fun n => lO x fun x => lO y fun y => K (.st n x y)
 | .fieldAddr s x f => match oI P s f with
   | some fd => match iD P fd.type with
     | some 0 => K (.gen o)
     | some _ => kA fd.offset fun off => lO x fun x => K (.fa off x)
     | none => K (.gen o)
   | none => K (.gen o)
 | .indexAddr t x i => match P.underlying t with
   | some (.slice elem) => a2F (iD P elem) (K (.gen o)) fun size => lO x fun x => lO i fun i => K (.ixs size x i)
   | some (.array n elem) => a2F (iD P elem) (K (.gen o)) fun size => lO x fun x => lO i fun i => K (.ixa n size x i)
   | _ => K (.gen o)
 | .extract t i => kA i fun i => lO t fun t => K (.ext i t)
 | .call c => b4c P o c K
 | _ => K (.gen o)
def xW (P : Program) (o : Oper) (K : LOp → α) : α := nQ (o.op.operands.toList.all iO) (K .bad) (c4z P o K)
def a6D (k : Nat) (d : Option Tmp) (no : α) (K : Option Pth → α) : α := match d with
 | none => K none
 | some t => nQ (Nat.blt t k) no (lK (kP t) fun p => K (some p))
def tL (P : Program) (k : Nat) (ops : Array Oper) (l : List Oper) : (LOps → α) → α → α := List.rec (motive := fun _ => (LOps → α) → α → α) (fun K _ => K .nil)
 (fun o _ ih K no => a6D k o.dst no fun d => xW P o fun o' => match o.guard with
   | none => ih (fun r => K (.cons d o' r)) no
   | some (j, w) => match (ops[j]?).bind (·.dst) with
     | some t => nQ (Nat.blt t k) no (lK (kP t) fun p => zA w fun w => ih (fun r => K (.gcons p w d o' r)) no)
     | none => no) l
def loG (k : Nat) (ops : Array Oper) (g : Option (Nat × Bool)) (no : α) (K : Option (Pth × Bool) → α) : α := match g with
 | none => K none
 | some (j, w) => match (ops[j]?).bind (·.dst) with
   | some t => nQ (Nat.blt t k) no (lK (kP t) fun p => zA w fun w => K (some (p, w)))
   | none => no
def sW (P : Program) (k : Nat) (ops : Array Oper) (N : Nat) (tab : List (Nat × Nat)) : (List (Nat × Option Nat × Option (Pth × Bool) × LOp) → α) → α → α := List.rec (motive := fun _ => (List (Nat × Option Nat × Option (Pth × Bool) × LOp) → α) → α → α) (fun K _ => K [])
 (fun x _ ih K no => match ops[x.1]? with
   | some o => loG k ops o.guard no fun g => xW P o fun o' => kA (N - 1 - x.1) fun i => nQ (Nat.blt x.2 N) (ih (fun l => K ((i, none, g, o') :: l)) no) (kA (N - 1 - x.2) fun m => ih (fun l => K ((i, some m, g, o') :: l)) no)
   | none => no) tab
def b4E (k : Nat) : (List Pth → α) → α := Nat.rec (motive := fun _ => (List Pth → α) → α) (fun K => K []) (fun n ih K => lK (kP n) fun p => ih fun l => K (p :: l)) k
def c2r {β : Type} (l : List β) : List β → (List β → α) → α := List.rec (motive := fun _ => List β → (List β → α) → α) (fun a K => K a) (fun x _ ih a K => ih (x :: a) K) l
def b3m (k : Nat) (K : List Pth → α) : α := b4E k fun l => c2r l [] K
def wI (k : Nat) (l : List Tmp) : (List Pth → α) → α → α := List.rec (motive := fun _ => (List Pth → α) → α → α) (fun K _ => K []) (fun t _ ih K no => nQ (Nat.blt t k) no (lK (kP t) fun p => ih (fun l => K (p :: l)) no)) l
def nB (P : Program) (k : Nat) (c : Code) : (LCode → α) → α := Code.rec (motive := fun _ => (LCode → α) → α)
 (fun K => K .skip)
 (fun _ ops d K => Bool.rec (motive := fun _ => α) (tL P k ops ops.toList (fun l => K (.reg l)) (K .bad))
   (match mV P ops with
     | some [] => tL P k ops ops.toList (fun l => K (.reg l)) (K .bad)
     | some tab => tL P k ops ops.toList (fun l => sW P k ops ops.size tab (fun t => K (.drw l t)) (K .bad)) (K .bad)
     | none => K .bad) d)
 (fun _ _ iha ihb K => iha fun a => ihb fun b => K (.seq a b))
 (fun c _ _ ihx ihy K => nQ (iO c) (K .bad) (lO c fun c => ihx fun x => ihy fun y => K (.cond c x y)))
 (fun id _ ih K => kA id fun id => ih fun b => K (.block id b))
 (fun _ ih K => ih fun b => K (.loop b))
 (fun g ps assign body iha ihb K => nQ (iO g) (K .bad) (lO g fun g' => b3m k fun pp => wI k ps.toList (fun q => iha fun a => ihb fun b => K (.range g' pp q ps assign body a b)) (K .bad)))
 (fun id K => kA id fun id => K (.exit id))
 (fun _ _ K => K .bad)
 (fun _ K => K .skip)
 (fun _ K => K .bad)
 (fun K => K .ret)
 (fun _ K => K .bad) c
def a0r (P : Program) (l : List ResultVar) : (List LRes → α) → α → α := List.rec (motive := fun _ => (List LRes → α) → α → α) (fun K _ => K [])
 (fun r _ ih K no => match r with
   | .tmp t => lK (kP t) fun p => ih (fun l => K (.t p :: l)) no
   | .cell a t => match jK P t with
     | some true => a2F (iD P t) no fun n => lK (kP a) fun p => ih (fun l => K (.cn n p :: l)) no
     | some false => lK (kP a) fun p => ih (fun l => K (.c1 p :: l)) no
     | none => no) l
def a2i (P : Program) (f : FuncId) (no : α) (K : LFunc → α) : α := match P.funcs[f]? with
 | some fn => match fn.body with
   | some c => nQ (fn.name == "runtime.NumGoroutine") (a0r P fn.results.toList (fun res => b3m fn.ntmps fun ps => nB P fn.ntmps c fun b => K ⟨ps, b, res⟩) no) no
   | none => no
 | none => no
def sX (P : Program) (fs : List FuncId) : LT → (LT → α) → α := List.rec (motive := fun _ => LT → (LT → α) → α) (fun T K => K T)
 (fun f _ ih T K => a2i P f (ih T K) fun g => lK (kP f) fun p => rU g p T fun T => ih T K) fs
end
end
end Go.Ds
namespace Go.Ds
section
variable {α : Type}
theorem uU (f k : Nat) : a4N (f + 1) (k + 1) = if k % 2 = 0 then .l (a4N f (k / 2)) else .r (a4N f (k / 2)) := by
 show Bool.rec (motive := fun _ => Pth) (.r (a4N f (k / 2))) (.l (a4N f (k / 2))) (Nat.beq (k % 2) 0) = _
 by_cases h : k % 2 = 0
 ·rw [if_pos h, h]; rfl
 ·rw [if_neg h]
  have : Nat.beq (k % 2) 0 = false := fT.2 fun e => h (dU e)
  rw [this]
theorem a3l (f : Nat) : a4N f 0 = .z := by cases f <;> rfl
theorem a1u : ∀ (f g a b : Nat), a ≤ f → b ≤ g → a4N f a = a4N g b → a = b
 | _, _, 0, 0, _, _, _ => rfl
 | 0, _, a + 1, _, h, _, _ => by omega
 | _, 0, _, b + 1, _, h, _ => by omega
 | f, g + 1, 0, b + 1, _, _, h => by
   rw [a3l, uU] at h
   split at h <;> cases h
 | f + 1, g, a + 1, 0, _, _, h => by
   rw [a3l, uU] at h
   split at h <;> cases h
 | f + 1, g + 1, a + 1, b + 1, ha, hb, h => by
   rw [uU, uU] at h
   by_cases h1 : a % 2 = 0
   ·rw [if_pos h1] at h
    by_cases h2 : b % 2 = 0
    ·rw [if_pos h2] at h
     injection h with h
     have := a1u f g (a / 2) (b / 2) (by omega) (by omega) h
     omega
    ·rw [if_neg h2] at h; cases h
   ·rw [if_neg h1] at h
    by_cases h2 : b % 2 = 0
    ·rw [if_pos h2] at h; cases h
    ·rw [if_neg h2] at h
     injection h with h
     have := a1u f g (a / 2) (b / 2) (by omega) (by omega) h
     omega
theorem b0B {a b : Nat} (h : kP a = kP b) : a = b := a1u _ _ _ _ (dj _) (dj _) h
theorem lI (p : Pth) (K : Pth → α) : lK p K = K p := by
 induction p generalizing K with
 | z => rfl
 | l p ih => exact ih _
 | r p ih => exact ih _
theorem mS (v : Value) (K : Value → α) : oB v K = K v := by cases v <;> rfl
theorem sS (v : Value) (p : Pth) (f : Fr) (K : Fr → α) : pP v p f K = K (pP v p f fun f => f) := by
 induction p generalizing f α with
 | z => cases f <;> rfl
 | l p ih =>
   cases f with
   | e =>
     show pP v p .e (fun l => K (.n undef l .e)) = K (pP v p .e fun l => .n undef l .e)
     rw [ih, ih (K := fun l => Fr.n undef l .e)]
   | n w l r =>
     show pP v p l (fun l => K (.n w l r)) = K (pP v p l fun l => .n w l r)
     rw [ih, ih (K := fun l => Fr.n w l r)]
 | r p ih =>
   cases f with
   | e =>
     show pP v p .e (fun l => K (.n undef .e l)) = K (pP v p .e fun l => .n undef .e l)
     rw [ih, ih (K := fun l => Fr.n undef .e l)]
   | n w l r =>
     show pP v p r (fun r => K (.n w l r)) = K (pP v p r fun r => .n w l r)
     rw [ih, ih (K := fun r => Fr.n w l r)]
theorem uH (p : Pth) : nT p .e = undef := by
 cases p <;> rfl
theorem b2L (v : Value) (p q : Pth) (f : Fr) : (q = p → nT q (pP v p f fun f => f) = v) ∧ (q ≠ p → nT q (pP v p f fun f => f) = nT q f) := by
 induction p generalizing f q with
 | z =>
   refine ⟨fun h => ?_, fun h => ?_⟩
   ·subst h; cases f <;> rfl
   ·cases q with
    | z => exact absurd rfl h
    | l q =>
      cases f with
      | e => show nT q .e = undef; exact uH q
      | n => rfl
    | r q =>
      cases f with
      | e => show nT q .e = undef; exact uH q
      | n => rfl
 | l p ih =>
   have h1 : ∀ f, pP v (.l p) f (fun f => f) = match f with | .e => .n undef (pP v p .e fun f => f) .e | .n w l r => .n w (pP v p l fun f => f) r := fun f => by
    cases f with
    | e => exact sS v p .e fun l => Fr.n undef l .e
    | n w l r => exact sS v p l fun l => Fr.n w l r
   rw [h1]
   cases q with
   | z => exact ⟨fun h => (nomatch h), fun _ => by cases f <;> rfl⟩
   | r q =>
     refine ⟨fun h => (nomatch h), fun _ => ?_⟩
     cases f with
     | e => show nT q .e = undef; exact uH q
     | n => rfl
   | l q =>
     refine ⟨fun h => ?_, fun h => ?_⟩
     ·injection h with h
      cases f with
      | e => exact (ih q .e).1 h
      | n w l r => exact (ih q l).1 h
     ·have h : q ≠ p := fun e => h (by rw [e])
      cases f with
      | e => show nT q (pP v p .e fun f => f) = undef; rw [(ih q .e).2 h, uH]
      | n w l r => exact (ih q l).2 h
 | r p ih =>
   have h1 : ∀ f, pP v (.r p) f (fun f => f) = match f with | .e => .n undef .e (pP v p .e fun f => f) | .n w l r => .n w l (pP v p r fun f => f) := fun f => by
    cases f with
    | e => exact sS v p .e fun l => Fr.n undef .e l
    | n w l r => exact sS v p r fun r => Fr.n w l r
   rw [h1]
   cases q with
   | z => exact ⟨fun h => (nomatch h), fun _ => by cases f <;> rfl⟩
   | l q =>
     refine ⟨fun h => (nomatch h), fun _ => ?_⟩
     cases f with
     | e => show nT q .e = undef; exact uH q
     | n => rfl
   | r q =>
     refine ⟨fun h => ?_, fun h => ?_⟩
     ·injection h with h
      cases f with
      | e => exact (ih q .e).1 h
      | n w l r => exact (ih q r).1 h
     ·have h : q ≠ p := fun e => h (by rw [e])
      cases f with
      | e => show nT q (pP v p .e fun f => f) = undef; rw [(ih q .e).2 h, uH]
      | n w l r => exact (ih q r).2 h
def FAg (f : Fr) (l : List Value) : Prop := ∀ t, nT (kP t) f = get l t
def FRel (k : Nat) (f : Fr) (l : List Value) : Prop := l.length = k ∧ FAg f l
noncomputable def b6N (f : Fr) (t : Tmp) (v : Value) : Fr := pP v (kP t) f fun f => f
theorem a3q (f : Fr) (t u : Tmp) (v : Value) : nT (kP u) (b6N f t v) = if u = t then v else nT (kP u) f := by
 have h := b2L v (kP t) (kP u) f
 by_cases he : u = t
 ·rw [if_pos he]; exact h.1 (by rw [he])
 ·rw [if_neg he]; exact h.2 (fun e => he (b0B e))
theorem FRel.put {k : Nat} {f : Fr} {l : List Value} (h : FRel k f l) {t : Tmp} (ht : t < k) (v : Value) : FRel k (b6N f t v) (Go.Ds.put l (some t) v) := by
 refine ⟨by simp [Go.Ds.put, mU, h.1], fun u => ?_⟩
 rw [a3q, b0p]
 by_cases he : u = t
 ·subst he; rw [if_pos rfl, if_pos ⟨rfl, by rw [h.1]; exact ht⟩]
 ·rw [if_neg he, if_neg (fun hh => he (cV hh.1).symm)]; exact h.2 u
theorem FRel.set {k : Nat} {f : Fr} {l : List Value} (h : FRel k f l) {t : Tmp} (ht : t < k) (v : Value) : FRel k (b6N f t v) (l.set t v) := by
 have := h.put ht v
 simpa [Go.Ds.put, mU] using this
def Rs.Is (r : Rs) (v : Value) (H : Heap) : Prop := r = .ok v H ∨ r = .th v H
theorem Rs.aw {v : Value} {H : Heap} : ¬ Rs.no.Is v H := by rintro (h | h) <;> cases h
theorem Rs.aN {v w : Value} {H H1 : Heap} (h : (Rs.ok v H).Is w H1) : w = v ∧ H1 = H := by
 rcases h with h | h
 ·injection h with a b; exact ⟨a.symm, b.symm⟩
 ·cases h
theorem Rs.aS {v w : Value} {H H1 : Heap} (h : (Rs.th v H).Is w H1) : w = v ∧ H1 = H := by
 rcases h with h | h
 ·cases h
 ·injection h with a b; exact ⟨a.symm, b.symm⟩
theorem kK (b : Bool) (no x : α) : nQ b no x = if b = true then x else no := by cases b <;> rfl
theorem lB {b : Bool} {x : Rs} {v : Value} {H : Heap} (h : (nQ b Rs.no x).Is v H) : b = true ∧ x.Is v H := by
 cases b with
 | false => exact absurd h Rs.aw
 | true => exact ⟨rfl, h⟩
theorem xI {β : Type} : ∀ (cs : List β) (e : Nat), a6b cs e = decide (e ≤ cs.length)
 | [], 0 => rfl
 | [], e + 1 => by simp; rfl
 | _ :: _, 0 => rfl
 | _ :: cs, e + 1 => by show a6b cs e = _; rw [xI cs e]; simp
theorem xR {β : Type} : ∀ (cs : List β) (e : Nat), a3V cs e = decide (e = cs.length)
 | [], 0 => rfl
 | [], e + 1 => by simp; rfl
 | _ :: _, 0 => by simp; rfl
 | _ :: cs, e + 1 => by show a3V cs e = _; rw [xR cs e]; simp
theorem xD {β : Type} : ∀ (cs : List β) (e : Nat), a0P cs e = cs[e]?
 | [], _ => rfl
 | _ :: _, 0 => rfl
 | _ :: cs, e + 1 => by show a0P cs e = _; rw [xD cs e]; simp
theorem a7g {β : Type} : ∀ (cs : List β) (e : Nat), b0l cs e = cs.drop e
 | [], e => by cases e <;> rfl
 | _ :: _, 0 => rfl
 | _ :: cs, e + 1 => by show b0l cs e = _; rw [a7g cs e]; rfl
theorem a7E {β : Type} : ∀ {cs : List β} {n : Nat} {K : List β → Rs} {v : Value} {H : Heap}, (a2x cs n K).Is v H → n ≤ cs.length ∧ (K (cs.take n)).Is v H
 | [], 0, K, v, H, h => ⟨dj _, h⟩
 | [], n + 1, K, v, H, h => absurd h Rs.aw
 | _ :: _, 0, K, v, H, h => ⟨eL _, h⟩
 | c :: cs, n + 1, K, v, H, h => by
   have h' : (a2x cs n fun l => K (c :: l)).Is v H := h
   obtain ⟨h1, h2⟩ := a7E h'
   exact ⟨by simp; omega, h2⟩
theorem b8y {a b : IntKind} (h : Nat.beq (kIx a) (kIx b) = true) : a = b := by
 cases a <;> cases b <;> first | rfl | (exact absurd h (by decide))
theorem b3S (k : Nat) (K : List Pth → α) : b4E k K = K ((List.range k).map kP).reverse := by
 induction k generalizing K with
 | zero => rfl
 | succ n ih =>
   show lK (kP n) (fun p => b4E n fun l => K (p :: l)) = _
   rw [lI, ih, ek]
   simp
theorem b7e {β : Type} (l : List β) : ∀ (a : List β) (K : List β → α), c2r l a K = K (l.reverse ++ a) := by
 induction l with
 | nil => intro a K; rfl
 | cons x l ih => intro a K; show c2r l (x :: a) K = _; rw [ih]; simp
theorem b0J (k : Nat) (K : List Pth → α) : b3m k K = K ((List.range k).map kP) := by
 unfold b3m; rw [b3S, b7e]; simp
theorem oZ (n : Nat) (d : α) (K : Nat → α) : a2F (some n) d K = K n := jV n K
def LK (H H' : Heap) : Prop := H.length ≤ H'.length ∧ ∀ A r', A < H.length → iQ H' A = some (.loop r') →
 ∃ r, iQ H A = some (.loop r) ∧ r'.assign = r.assign ∧ r'.body = r.body ∧ r'.params = r.params ∧ r'.tmps = r.tmps
theorem LK.refl (H : Heap) : LK H H := ⟨dj _, fun _ r _ h => ⟨r, h, rfl, rfl, rfl, rfl⟩⟩
theorem LK.trans {H H1 H2 : Heap} (h : LK H H1) (k : LK H1 H2) : LK H H2 := ⟨dD h.1 k.1, fun A r' hA hr => by
 obtain ⟨r1, h1, a1, b1, c1, d1⟩ := k.2 A r' (dK hA h.1) hr
 obtain ⟨r, h2, a2, b2, c2, d2⟩ := h.2 A r1 hA h1
 exact ⟨r, h2, a1.trans a2, b1.trans b2, c1.trans c2, d1.trans d2⟩⟩
def Blk.cq : Blk → Bool
 | .loop _ => true
 | _ => false
theorem LK.hset (H : Heap) (A : Nat) {b : Blk} (hb : b.cq = false) : LK H (hset H A b) := by
 refine ⟨by rw [jJ]; exact dj _, fun B r' hB h => ?_⟩
 by_cases he : A = B
 ·subst he; rw [iR _ hB] at h; injection h with h; subst h; cases hb
 ·rw [iZ _ he] at h; exact ⟨r', h, rfl, rfl, rfl, rfl⟩
theorem LK.cons (H : Heap) (b : Blk) : LK H (H.cons b) := by
 refine ⟨by rw [length_cons]; omega, fun B r' hB h => ?_⟩
 rw [jL b hB] at h; exact ⟨r', h, rfl, rfl, rfl, rfl⟩
theorem LK.row (H : Heap) (ty : TypeId) (cs : List Value) : LK H (rJ H ty cs) := by rw [lF]; exact .cons _ _
theorem LK.loop {H : Heap} {L : Nat} {r r' : Loop} (h : iQ H L = some (.loop r)) (e : r'.assign = r.assign ∧ r'.body = r.body ∧ r'.params = r.params ∧ r'.tmps = r.tmps) : LK H (Go.Ds.hset H L (.loop r')) := by
 refine ⟨by rw [jJ]; exact dj _, fun B r2 hB hg => ?_⟩
 by_cases he : L = B
 ·subst he; rw [iR _ hB] at hg; injection hg with hg; injection hg with hg; subst hg; exact ⟨r, h, e⟩
 ·rw [iZ _ he] at hg; exact ⟨r2, hg, rfl, rfl, rfl, rfl⟩
variable {P : Program}
theorem a5X {H H' : Heap} {t : TypeId} {p v : Value} (h : qE P H t p v = some H') : LK H H' := by
 unfold qE at h
 split at h
 ·split at h
  ·dsimp only at h
   split at h
   ·injection h with h; subst h; exact .hset _ _ rfl
   ·cases h
  ·cases h
 ·cases h
theorem a3P {H H' : Heap} {t : TypeId} {v r : Value} (h : wP P H t v = some (r, H')) : LK H H' := by
 unfold wP at h
 dsimp only at h
 split at h
 ·injection h with h; injection h with _ h; subst h; exact .row _ _ _
 ·cases h
theorem a4w {H H' : Heap} {t : TypeId} {s x r : Value} (h : nH P H t s x = some (r, H')) : LK H H' := by
 unfold nH at h
 simp only [cY] at h
 obtain ⟨elem, _, size, _, bytes, _, z, _, ⟨n, l⟩, _, h⟩ := h
 try dsimp only at h
 split at h
 ·split at h
  ·split at h
   ·injection h with h; injection h with _ h; subst h; exact .refl _
   ·injection h with h; injection h with _ h; subst h; exact .row _ _ _
  ·cases h
 ·split at h
  ·split at h
   ·injection h with h; injection h with _ h; subst h; exact .hset _ _ rfl
   ·split at h
    ·injection h with h; injection h with _ h; subst h; exact .hset _ _ rfl
    ·cases h
  ·cases h
 ·cases h
theorem a6Q {H H' : Heap} {t : TypeId} {v r : Value} (h : qS P H t v = some (r, H')) : LK H H' := by
 unfold qS at h
 split at h
 ·dsimp only at h
  rename_i n elem _
  have key : ∀ (b : Bool), (if b = true then some (Value.pointer (some ⟨H.length, 0, some v.cells.toList.length⟩), b3R H elem v.cells.toList) else none) = some (r, H') → LK H H' := by
   intro b h
   cases b
   ·cases h
   ·injection h with h; injection h with _ h; subst h; rw [a0Z]; exact .cons _ _
  exact key _ h
 ·exact a3P h
theorem a4L {H H' : Heap} {t : TypeId} {x y r : Value} (h : uQ P H t x y = some (r, H')) : LK H H' := by
 unfold uQ at h
 split at h
 ·split at h
  ·split at h
   ·simp only [dh] at h
    obtain ⟨_, _, h⟩ := h
    injection h with _ h; subst h; exact .hset _ _ rfl
   ·cases h
  ·cases h
 ·cases h
theorem a4V {H H' : Heap} {k : FuncId} {args : List Value} {r : Value} (h : pR P k args H = some (r, H')) : LK H H' := by
 unfold pR at h
 simp only [cY] at h
 obtain ⟨fn, _, h⟩ := h
 split at h
 case isFalse => cases h
 split at h
 ·split at h
  ·injection h with h; injection h with _ h; subst h; exact .refl _
  ·cases h
 split at h
 ·split at h
  ·split at h
   ·simp only [cY] at h
    obtain ⟨_, _, h⟩ := h
    split at h
    ·injection h with h; injection h with _ h; subst h; exact .row _ _ _
    ·cases h
   ·cases h
  ·cases h
 split at h
 ·split at h
  ·split at h
   ·split at h
    ·injection h with h; injection h with _ h; subst h; exact .refl _
    ·cases h
   ·cases h
  ·cases h
 ·cases h
theorem a8v {H H' : Heap} {t : TypeId} {s x r : Value} (h : a0y P H t s x = some (r, H')) : LK H H' := by
 unfold a0y at h
 simp only [cY] at h
 obtain ⟨elem, _, size, _, m, _, h⟩ := h
 try dsimp only at h
 split at h
 ·split at h
  ·injection h with h; injection h with _ h; subst h; exact .refl _
  ·cases h
 ·split at h
  ·injection h with h; injection h with _ h; subst h; exact .refl _
  ·simp only [cY] at h
   obtain ⟨l, _, h⟩ := h
   split at h
   ·split at h
    ·injection h with h; injection h with _ h; subst h; exact .hset _ _ rfl
    ·cases h
   ·cases h
 ·cases h
theorem a5C {H H' : Heap} {t : TypeId} {x r : Value} (h : sP P H t x = some (r, H')) : LK H H' := by
 unfold sP at h
 simp only [cY] at h
 obtain ⟨elem, _, z, _, h⟩ := h
 split at h
 ·injection h with h; injection h with _ h; subst h; exact .refl _
 ·split at h
  ·injection h with h; injection h with _ h; subst h; exact .refl _
  ·try dsimp only at h
   split at h
   ·split at h
    ·injection h with h; injection h with _ h; subst h; exact .hset _ _ rfl
    ·cases h
   ·cases h
 ·cases h
theorem b1H {H H' : Heap} {t : TypeId} {m k v : Value} (h : a0L P H t m k v = some H') : LK H H' := by
 unfold a0L at h
 simp only [cY] at h
 obtain ⟨⟨kt, et⟩, _, h⟩ := h
 dsimp only at h
 split at h
 ·split at h
  ·split at h
   ·simp only [cY] at h
    obtain ⟨r, _, h⟩ := h
    split at h
    ·simp only [cY] at h
     obtain ⟨e, _, h⟩ := h
     split at h
     ·injection h with h; subst h; exact .hset _ _ rfl
     ·cases h
    ·injection h with h; subst h; exact .hset _ _ rfl
   ·cases h
  ·cases h
 ·cases h
theorem a6j {H H' : Heap} {t : TypeId} {m k r : Value} (h : sL P H t m k = some (r, H')) : LK H H' := by
 unfold sL at h
 simp only [cY] at h
 obtain ⟨⟨kt, et⟩, _, h⟩ := h
 dsimp only at h
 split at h
 ·split at h
  ·split at h
   ·simp only [cY] at h
    obtain ⟨r, _, h⟩ := h
    split at h
    ·simp only [cY] at h
     obtain ⟨e, _, h⟩ := h
     split at h
     ·injection h with h; injection h with _ h; subst h; exact .hset _ _ rfl
     ·cases h
    ·simp only [cY] at h
     obtain ⟨z, _, h⟩ := h
     split at h
     ·injection h with h; injection h with _ h; subst h; exact .hset _ _ rfl
     ·cases h
   ·cases h
  ·cases h
 ·cases h
theorem a6G {H H' : Heap} {m b v : Value} (h : rM H m b v = some H') : LK H H' := by
 unfold rM at h
 split at h
 ·split at h
  ·split at h
   ·simp only [cY] at h
    obtain ⟨e, _, h⟩ := h
    injection h with h; subst h; exact .hset _ _ rfl
   ·cases h
  ·cases h
 ·cases h
theorem a2C {H H' : Heap} {t : TypeId} {o : Option Value} {r : Value} (h : pG P H t o = some (r, H')) : LK H H' := by
 unfold pG at h
 simp only [cY] at h
 obtain ⟨_, _, h⟩ := h
 split at h
 ·injection h with h; injection h with _ h; subst h; exact .cons _ _
 ·injection h with h; injection h with _ h; subst h; exact .cons _ _
 ·cases h
theorem a6z {H H' : Heap} {o : Oper} {l : List Value} {r : Value} (h : kL P o l H = some (r, H')) : H' = H := by
 unfold kL at h
 split at h
 ·split at h
  ·split at h
   ·injection h with h; injection h with _ h; exact h.symm
   ·cases h
  ·cases h
 ·cases h
theorem uN {H H' : Heap} {v r : Value} (h : some (v, H) = some (r, H')) : LK H H' := by injection h with h; injection h with _ h; subst h; exact .refl _
theorem tI {H H' : Heap} {v : Option Value} {r : Value} (h : v.map (fun v => (v, H)) = some (r, H')) : LK H H' := by
 cases v with
 | none => cases h
 | some v => exact uN h
set_option maxHeartbeats 1000000 in
theorem b4x {H H' : Heap} {o : Oper} {l : List Value} {r : Value} (h : opD P o l H = some (r, H')) : LK H H' := by
 obtain ⟨dst, op, type, pos, after, guard⟩ := o
 have pl : ∀ {o : Oper}, kL P o l H = some (r, H') → LK H H' := fun h => by rw [a6z h]; exact .refl _
 cases op with
 | alloc t =>
   simp only [opD, cY] at h
   obtain ⟨z, _, h⟩ := h
   split at h
   ·exact a6Q h
   ·cases h
 | box t x => simp only [opD] at h; exact a3P h
 | store t x y =>
   simp only [opD, dh] at h
   obtain ⟨H1, h, e⟩ := h
   injection e with _ e; subst e
   exact a5X h
 | mapUpdate t m x y =>
   simp only [opD, dh] at h
   obtain ⟨H1, h, e⟩ := h
   injection e with _ e; subst e
   exact b1H h
 | mapEntry t m x => simp only [opD] at h; exact a6j h
 | entryStore t m x y =>
   simp only [opD, dh] at h
   obtain ⟨H1, h, e⟩ := h
   injection e with _ e; subst e
   exact a6G h
 | makeMap t x => simp only [opD] at h; exact a2C h
 | buildSlice t len parts =>
   simp only [opD, cY] at h
   obtain ⟨elem, _, size, _, z, _, h⟩ := h
   split at h
   ·injection h with h; injection h with _ h; subst h; exact .row _ _ _
   split at h
   ·simp only [dh] at h
    obtain ⟨cs, _, e⟩ := h
    injection e with _ e; subst e
    exact .row _ _ _
   ·cases h
 | makeSlice t n c =>
   simp only [opD, cY] at h
   obtain ⟨elem, _, size, _, bytes, _, z, _, h⟩ := h
   split at h
   ·split at h
    ·injection h with h; injection h with _ h; subst h; exact .row _ _ _
    ·cases h
   ·cases h
 | call c =>
   simp only [opD] at h
   split at h
   ·split at h
    ·split at h
     all_goals first | exact tI h | cases h
    ·cases h
   ·split at h
    ·exact a4w h
    ·cases h
   ·split at h
    ·exact a8v h
    ·cases h
   ·split at h
    ·exact a5C h
    ·cases h
   ·exact pl h
   ·split at h
    ·split at h
     ·split at h
      ·cases h
      ·exact uN h
     ·cases h
    ·cases h
   ·split at h
    ·exact a4L h
    ·cases h
   ·exact pl h
   ·exact pl h
   ·cases h
 | convert s t x =>
   simp only [opD] at h
   split at h
   ·exact pl h
   ·split at h
    ·split at h
     ·exact tI h
     ·cases h
    ·split at h
     ·simp only [cY] at h
      obtain ⟨_, _, h⟩ := h
      injection h with h; injection h with _ h; subst h
      rw [b0k]; exact .cons _ _
     ·cases h
    ·split at h
     ·exact uN h
     ·cases h
    ·cases h
 | slice t x lo hi mx =>
   cases mx with
   | some _ => simp only [opD] at h; cases h
   | none =>
     simp only [opD] at h
     split at h
     ·exact pl h
     ·split at h
      ·exact tI h
      ·exact tI h
 | _ =>
   simp only [opD] at h
   repeat' first
    | exact LK.refl _
    | exact uN h
    | exact tI h
    | exact pl h
    | (cases h; done)
    | split at h
    | (simp only [cY, dh] at h; obtain ⟨_, _, h⟩ := h)
    | (obtain ⟨_, _, h⟩ := h)
    | (injection h with h; injection h with _ h; subst h; exact LK.refl _)
    | (injection h with _ h; subst h; exact LK.refl _)
    | (cases h; exact LK.refl _)
end
end Go.Ds
namespace Go.Ds
variable {P : Program}
structure CallsOk (P : Program) (C : Calls') (H0 : Heap) : Prop where
 fn : ∀ p f args H v H1, LK H0 H → (C.fn p f args H).Is v H1 → p = kP f → (FnS P f args H (fun v' H' => v' = v ∧ H' = H1) ∨ pR P f args H = some (v, H1)) ∧ LK H H1
 rd : ∀ L args H v H1, LK H0 H → (C.rd L args H).Is v H1 → xM P L args H v H1 ∧ LK H H1
noncomputable def iV (x : Operand) : LArg := match x with
 | .tmp t => .t (kP t)
 | .const v => .c v
 | .global g => .c (.pointer (some ⟨g, 0, none⟩))
 | .func k => .c (.func (.func k) #[] #[])
theorem kX {α : Type} (x : Operand) (K : LArg → α) : lO x K = K (iV x) := by
 cases x with
 | tmp t => exact lI _ _
 | _ => rfl
theorem jN {f : Fr} {l : List Value} (h : FAg f l) (x : Operand) : mJ f (iV x) = ev l x := by
 cases x with
 | tmp t => exact h t
 | _ => rfl
theorem a3j {α : Type} (l : List Operand) (K : List LArg → α) : a5l l K = K (l.map iV) := by
 induction l generalizing K with
 | nil => rfl
 | cons x l ih =>
   show lO x (fun x => a5l l fun l => K (x :: l)) = _
   rw [kX, ih]; rfl
theorem a5O {α : Type} {f : Fr} {l : List Value} (h : FAg f l) (xs : List Operand) (K : List Value → α) : a3c f (xs.map iV) K = K (xs.map (ev l)) := by
 induction xs generalizing K with
 | nil => rfl
 | cons x xs ih =>
   show oB (mJ f (iV x)) (fun v => a3c f (xs.map iV) fun l => K (v :: l)) = _
   rw [mS, ih, jN h]; rfl
theorem c1f {f : Fr} {l : List Value} (h : FAg f l) : evF f = ev l := by
 funext x
 cases x with
 | tmp t => exact h t
 | _ => rfl
def vF (P : Program) (o : Oper) (lo : LOp) : Prop := ∀ C H0 f l H v H1, CallsOk P C H0 → LK H0 H → FAg f l → (opF P C lo f H).Is v H1 → StepR P o l H v H1 ∧ LK H H1
def LowPl (P : Program) (o : Oper) (lo : LOp) : Prop := ∀ C f l H v H1, FAg f l → (opF P C lo f H).Is v H1 → opD P o l H = some (v, H1)
theorem LowPl.low {o : Oper} {lo : LOp} (hok : o.op.operands.toList.all iO = true) (h : LowPl P o lo) : vF P o lo :=
 fun C _ f l H v H1 _ _ hf hr => by have := h C f l H v H1 hf hr; exact ⟨.op hok this, b4x this⟩
theorem b8I (o : Oper) : vF P o .bad := fun _ _ _ _ _ _ _ _ _ _ h => absurd h Rs.aw
theorem b8V (o : Oper) : LowPl P o (.gen o) := fun C f l H v H1 hf hr => by
 have hr : (match c1t P o (evF f) H with | some (v, H1) => Rs.th v H1 | none => .no).Is v H1 := hr
 rw [c1f hf] at hr
 have e : c1t P o (ev l) H = opD P o l H := rfl
 rw [e] at hr
 split at hr
 ·rename_i v2 H2 h2
  obtain ⟨rfl, rfl⟩ := Rs.aS hr
  exact h2
 ·exact absurd hr Rs.aw
section
variable {dst : Option Tmp} {type : TypeId} {pos : String} {after : Array Edge} {guard : Option (Nat × Bool)}
theorem c0R (x : Operand) : LowPl P ⟨dst, .move x, type, pos, after, guard⟩ (.mv (iV x)) := fun C f l H v H1 hf hr => by
 have hr : (oB (mJ f (iV x)) fun v => Rs.ok v H).Is v H1 := hr
 rw [mS, jN hf] at hr
 obtain ⟨rfl, rfl⟩ := Rs.aN hr
 rfl
theorem c1N (x : Operand) : LowPl P ⟨dst, .assign x, type, pos, after, guard⟩ (.mv (iV x)) := fun C f l H v H1 hf hr => by
 have hr : (oB (mJ f (iV x)) fun v => Rs.ok v H).Is v H1 := hr
 rw [mS, jN hf] at hr
 obtain ⟨rfl, rfl⟩ := Rs.aN hr
 rfl
theorem b5l (c a b : Operand) : LowPl P ⟨dst, .pick c a b, type, pos, after, guard⟩ (.pick (iV c) (iV a) (iV b)) := fun C f l H v H1 hf hr => by
 have hr : (b5q (iV c) (iV a) (iV b) f H).Is v H1 := hr
 unfold b5q at hr
 rw [jN hf] at hr
 split at hr
 ·rename_i t ht
  rw [mS] at hr
  simp only [opD, ht]
  cases t
  ·have hr : (Rs.ok (mJ f (iV b)) H).Is v H1 := hr
   rw [jN hf] at hr
   obtain ⟨rfl, rfl⟩ := Rs.aN hr; rfl
  ·have hr : (Rs.ok (mJ f (iV a)) H).Is v H1 := hr
   rw [jN hf] at hr
   obtain ⟨rfl, rfl⟩ := Rs.aN hr; rfl
 ·exact absurd hr Rs.aw
theorem b7i (a b : Int) : c3o a b = a * b := by cases a <;> cases b <;> rfl
theorem a4m (a b : Int) : c3P a b = a.tdiv b := by cases a <;> cases b <;> rfl
theorem a4v (a b : Int) : c2N a b = a.tmod b := by cases a <;> cases b <;> rfl
theorem b7X {op : BinOp} {g : IntKind → Int → Int → Option Value} (h : b8w op = some g) (k : IntKind) (a b : Int) : mI op k a b = g k a b := by
 cases op <;> simp only [b8w] at h <;> first | (cases h; done) | (injection h with h; subst h)
 all_goals first
  | rfl
  | (simp only [mI, c4W, b7i]; done)
  | (simp only [mI, b9b, a4m]; done)
  | (simp only [mI, b9C, a4v]; done)
  | (simp only [mI, b9b, a4m]; rfl)
  | (simp only [mI, b9C, a4v]; rfl)
  | (simp only [mI, b9b, a4m]; cases eqI b 0 <;> rfl)
  | (simp only [mI, b9C, a4v]; cases eqI b 0 <;> rfl)
theorem c2G {o : Option Value} {H H1 : Heap} {v : Value} (h : (oV o H).Is v H1) : o = some v ∧ H1 = H := by
 cases o with
 | none => exact absurd h Rs.aw
 | some w => obtain ⟨rfl, rfl⟩ := Rs.aS h; exact ⟨rfl, rfl⟩
theorem b6V {o : Option Value} {H H1 : Heap} {v : Value} (h : (okV o H).Is v H1) : o = some v ∧ H1 = H := by
 cases o with
 | none => exact absurd h Rs.aw
 | some w =>
   have h : (oB w fun v => Rs.ok v H).Is v H1 := h
   rw [mS] at h
   obtain ⟨rfl, rfl⟩ := Rs.aN h; exact ⟨rfl, rfl⟩
theorem b9e {op : BinOp} {g : IntKind → Int → Int → Option Value} (hg : b8w op = some g) (t yt : TypeId) (x y : Operand) : LowPl P ⟨dst, .binOp op t x y yt, type, pos, after, guard⟩ (.bin g (iV x) (iV y)) := fun C f l H v H1 hf hr => by
 have hr : (c0U g (iV x) (iV y) f H).Is v H1 := hr
 unfold c0U at hr
 rw [jN hf] at hr
 split at hr
 ·rename_i k a hx
  unfold c0j at hr
  rw [jN hf] at hr
  split at hr
  ·rename_i k' b hy
   obtain ⟨hk, hq⟩ := lB hr
   obtain rfl := b8y hk
   obtain ⟨hv, rfl⟩ := c2G hq
   rw [← b7X hg] at hv
   have : opD P ⟨dst, .binOp op t x y yt, type, pos, after, guard ⟩ l H1 = if k = k then (match mI op k a b with | some v => some (v, H1) | none => kL P ⟨dst, .binOp op t x y yt, type, pos, after, guard ⟩ l H1) else kL P ⟨dst, .binOp op t x y yt, type, pos, after, guard ⟩ l H1 := by
    simp only [opD, hx, hy]
    cases op <;> rfl
   rw [this, if_pos rfl, hv]
  ·exact absurd hr Rs.aw
 ·exact absurd hr Rs.aw
theorem b8n {b : Option Blk} {i e : Nat} {H H1 : Heap} {v : Value} (h : (b8S b i e H).Is v H1) : H1 = H ∧ ∃ cs ty rw lo ver, b = some (.cells cs ty rw lo ver) ∧ lo ≤ e ∧ e ≤ cs.length ∧ i + 1 ≤ e ∧ cs[i]? = some v := by
 unfold b8S at h
 split at h
 ·rename_i cs ty rw lo ver
  obtain ⟨h1, h⟩ := lB h
  obtain ⟨h2, h⟩ := lB h
  obtain ⟨h3, h⟩ := lB h
  have h : (okV (a0P cs i) H).Is v H1 := h
  obtain ⟨h4, h5⟩ := b6V h
  rw [xI] at h2
  rw [xD] at h4
  exact ⟨h5, cs, ty, rw, lo, ver, rfl, ee h1, by simpa using h2, ee h3, h4⟩
 ·exact absurd h Rs.aw
theorem b9h {b : Option Blk} {n i e : Nat} {H H1 : Heap} {v : Value} (h : (b8e b n i e H).Is v H1) : H1 = H ∧ ∃ cs ty rw lo ver, b = some (.cells cs ty rw lo ver) ∧ lo ≤ e ∧ e ≤ cs.length ∧ i + n ≤ e ∧ v = .agg ((cs.drop i).take n).toArray := by
 unfold b8e at h
 split at h
 ·rename_i cs ty rw lo ver
  obtain ⟨h1, h⟩ := lB h
  obtain ⟨h2, h⟩ := lB h
  obtain ⟨h3, h⟩ := lB h
  obtain ⟨h4, h⟩ := a7E h
  obtain ⟨rfl, rfl⟩ := Rs.aN h
  rw [xI] at h2
  exact ⟨rfl, cs, ty, rw, lo, ver, rfl, ee h1, by simpa using h2, ee h3, by rw [a7g]⟩
 ·exact absurd h Rs.aw
theorem b0s {X : LArg} {f : Fr} {H H1 : Heap} {v w : Value} {t : TypeId} (ht : jK P t = some false) (hw : mJ f X = w) (h : (b3g X f H).Is v H1) : H1 = H ∧ lL P H t w = some v := by
 unfold b3g at h
 rw [hw] at h
 split at h
 ·rename_i A i e
  obtain ⟨h1, cs, ty, rw', lo, ver, h2, h3, h4, h5, h6⟩ := b8n h
  refine ⟨h1, ?_⟩
  simp only [lL, ht, jA, h2]
  rw [if_pos (by simp; omega)]
  simp [h6]
 ·rename_i A i
  unfold c1i at h
  split at h
  ·rename_i cs ty lo hg
   obtain ⟨h1, h⟩ := lB h
   rw [xI] at h1
   have h1 : lo ≤ cs.length := by simpa using h1
   cases hn : a0P cs i with
   | none => rw [hn] at h; exact absurd h Rs.aw
   | some c =>
     rw [hn] at h
     have h : (oB c fun v => Rs.ok v H).Is v H1 := h
     rw [mS] at h
     obtain ⟨rfl, rfl⟩ := Rs.aN h
     rw [xD] at hn
     have hi := (du.1 hn).1
     refine ⟨rfl, ?_⟩
     simp only [lL, ht, jA, hg]
     rw [if_pos (by simp; omega)]
     simp [hn]
  ·exact absurd h Rs.aw
 ·exact absurd h Rs.aw
theorem b0O {X : LArg} {f : Fr} {H H1 : Heap} {v w : Value} {t : TypeId} {n : Nat} (ht : jK P t = some true) (hn : iD P t = some n) (hw : mJ f X = w) (h : (b1n n X f H).Is v H1) : H1 = H ∧ lL P H t w = some v := by
 unfold b1n at h
 rw [hw] at h
 split at h
 ·rename_i A i e
  obtain ⟨h1, cs, ty, rw', lo, ver, h2, h3, h4, h5, h6⟩ := b9h h
  refine ⟨h1, ?_⟩
  simp only [lL, ht, hn, cW, jA, h2]
  rw [if_pos (by simp; omega), h6]
  rfl
 ·exact absurd h Rs.aw
theorem b7Y {t : TypeId} (ht : jK P t = some false) (x : Operand) : LowPl P ⟨dst, .load t x, type, pos, after, guard⟩ (.ld1 (iV x)) := fun C f l H v H1 hf hr => by
 obtain ⟨rfl, h⟩ := b0s (P := P) ht (jN hf x) hr
 simp only [opD, h, dM]
theorem b7n {t : TypeId} {n : Nat} (ht : jK P t = some true) (hn : iD P t = some n) (x : Operand) : LowPl P ⟨dst, .load t x, type, pos, after, guard⟩ (.ldn n (iV x)) := fun C f l H v H1 hf hr => by
 obtain ⟨rfl, h⟩ := b0O (P := P) ht hn (jN hf x) hr
 simp only [opD, h, dM]
theorem c2h {t : TypeId} {n : Nat} (hn : iD P t = some n) (x y : Operand) : LowPl P ⟨dst, .store t x y, type, pos, after, guard⟩ (.st n (iV x) (iV y)) := fun C f l H v H1 hf hr => by
 have hr : (hSt n (iV x) (iV y) f H).Is v H1 := hr
 unfold hSt at hr
 rw [jN hf, jN hf] at hr
 split at hr
 ·rename_i A i e hx
  unfold stB at hr
  split at hr
  ·rename_i cs ty lo ver hg
   obtain ⟨h1, hr⟩ := lB hr
   obtain ⟨h2, hr⟩ := lB hr
   obtain ⟨h3, hr⟩ := lB hr
   obtain ⟨h4, hr⟩ := lB hr
   obtain ⟨h5, hr⟩ := lB hr
   obtain ⟨rfl, rfl⟩ := Rs.aS hr
   rw [xR] at h1 h3
   have h1 : n = (ev l y).cells.toList.length := by simpa only [decide_eq_true_eq] using h1
   have h3 : e = cs.length := by simpa only [decide_eq_true_eq] using h3
   have h4 : i + n ≤ e := ee h4
   have h5 : lo ≤ e := ee h5
   simp only [opD, qE, hx, hg]
   rw [if_pos ⟨by rw [hn, h1], h2, h3, by omega, h5⟩]
   simp only [dM]
   rw [h3]
  ·exact absurd hr Rs.aw
 ·exact absurd hr Rs.aw
theorem c1p {s : TypeId} {k n : Nat} {fd : Field} (hf' : oI P s k = some fd) (hn : iD P fd.type = some n) (hn0 : n ≠ 0) (x : Operand) : LowPl P ⟨dst, .fieldAddr s x k, type, pos, after, guard⟩ (.fa fd.offset (iV x)) := fun C f l H v H1 hf hr => by
 have hr : (hFa fd.offset (iV x) f H).Is v H1 := hr
 unfold hFa at hr
 rw [jN hf] at hr
 split at hr
 ·rename_i A i e hx
  rw [jV] at hr
  obtain ⟨rfl, rfl⟩ := Rs.aN hr
  simp only [opD, hx, hf', cW, hn]
  rw [if_neg (by simpa using hn0)]; rfl
 ·exact absurd hr Rs.aw
theorem b6k {A i e size n : Nat} {H H1 : Heap} {j v : Value} (h : (ixP A i e size n H j).Is v H1) : H1 = H ∧ ∃ k m, j = .int k (.ofNat m) ∧ m < n ∧ v = .pointer (some ⟨A, i + m * size, some e⟩) := by
 unfold ixP at h
 split at h
 ·rename_i k m
  obtain ⟨h1, h⟩ := lB h
  rw [jV] at h
  obtain ⟨rfl, rfl⟩ := Rs.aN h
  rw [blt_eq] at h1
  exact ⟨rfl, k, m, rfl, by simpa using h1, rfl⟩
 ·exact absurd h Rs.aw
theorem b7F {t elem : TypeId} {size : Nat} (ht : P.underlying t = some (.slice elem)) (hs : iD P elem = some size) (x i : Operand) : LowPl P ⟨dst, .indexAddr t x i, type, pos, after, guard⟩ (.ixs size (iV x) (iV i)) := fun C f l H v H1 hf hr => by
 have hr : (c0X size (iV x) (iV i) f H).Is v H1 := hr
 unfold c0X at hr
 rw [jN hf, jN hf] at hr
 split at hr
 ·rename_i A a e n c hx
  obtain ⟨rfl, k, m, hj, hm, rfl⟩ := b6k hr
  simp only [opD, ht, hx, hj, hs, cW]
  rw [if_pos (by simp; omega)]
  rfl
 ·exact absurd hr Rs.aw
theorem c4B (a b : Nat) : Nat.beq a b = (a == b) := by
 cases h : Nat.beq a b with
 | true => rw [dU h]; simp
 | false => have := Nat.ne_of_beq_eq_false h; simp [this]
theorem c1x {A i size n : Nat} {H H1 : Heap} {j v : Value} (h : (ixG A i size n H j).Is v H1) : H1 = H ∧ ∃ k m, j = .int k (.ofNat m) ∧ m < n ∧ v = .pointer (some ⟨A, i + m * size, none⟩) := by
 unfold ixG at h
 split at h
 ·rename_i k m
  obtain ⟨h1, h⟩ := lB h
  rw [jV] at h
  obtain ⟨rfl, rfl⟩ := Rs.aN h
  exact ⟨rfl, k, m, rfl, by simpa [gY] using h1, rfl⟩
 ·exact absurd h Rs.aw
theorem b8N {t elem : TypeId} {n size : Nat} (ht : P.underlying t = some (.array n elem)) (hs : iD P elem = some size) (x i : Operand) : LowPl P ⟨dst, .indexAddr t x i, type, pos, after, guard⟩ (.ixa n size (iV x) (iV i)) := fun C f l H v H1 hf hr => by
 have hr : (c1c n size (iV x) (iV i) f H).Is v H1 := hr
 unfold c1c at hr
 rw [jN hf, jN hf] at hr
 split at hr
 ·rename_i A a e hx
  obtain ⟨rfl, k, m, hj, hm, rfl⟩ := b6k hr
  simp only [opD, ht, hx, hj, hs, cW]
  rw [if_pos (by simp; omega)]
  rfl
 ·rename_i A a hx
  obtain ⟨rfl, k, m, hj, hm, rfl⟩ := c1x hr
  simp only [opD, ht, hx, hj, hs, cW]
  rw [if_pos (by simp; omega)]
  rfl
 ·exact absurd hr Rs.aw
theorem b8B (i : Nat) (x : Operand) : LowPl P ⟨dst, .extract x i, type, pos, after, guard⟩ (.ext i (iV x)) := fun C f l H v H1 hf hr => by
 have hr : (c1k i (iV x) f H).Is v H1 := hr
 unfold c1k at hr
 rw [jN hf] at hr
 split at hr
 ·rename_i vs hx
  obtain ⟨h1, rfl⟩ := b6V hr
  rw [xD] at h1
  simp only [opD, hx]
  simp [h1]
 ·exact absurd hr Rs.aw
theorem b8c {c : Call} {elem : TypeId} (hc : c.callee = .builtin .len) (h1 : c.args.size = 1) (h2 : c.argTypes.size = 1) (ht : P.underlying (c.argTypes.getD 0 0) = some (.slice elem)) : LowPl P ⟨dst, .call c, type, pos, after, guard⟩ (.len (iV (c.args.getD 0 (.tmp 0)))) := fun C f l H v H1 hf hr => by
 have hr : (c1Q (iV (c.args.getD 0 (.tmp 0))) f H).Is v H1 := hr
 unfold c1Q at hr
 rw [jN hf] at hr
 split at hr
 ·rename_i a n k hx
  obtain ⟨rfl, rfl⟩ := Rs.aS hr
  simp only [opD, hc, h1, h2, ht, hx, wL]; rfl
 ·exact absurd hr Rs.aw
theorem b6W {c : Call} (hc : c.callee = .builtin .len) (h1 : c.args.size = 1) (h2 : c.argTypes.size = 1) (ht : P.underlying (c.argTypes.getD 0 0) = some .string) : LowPl P ⟨dst, .call c, type, pos, after, guard⟩ (.slen (iV (c.args.getD 0 (.tmp 0)))) := fun C f l H v H1 hf hr => by
 have hr : (b4d (iV (c.args.getD 0 (.tmp 0))) f H).Is v H1 := hr
 unfold b4d at hr
 rw [jN hf] at hr
 split at hr
 ·rename_i s hx
  obtain ⟨rfl, rfl⟩ := Rs.aS hr
  simp only [opD, hc, h1, h2, ht, hx, wL]; rfl
 ·exact absurd hr Rs.aw
theorem b7E {c : Call} {elem : TypeId} {size bytes : Nat} {z : Value} (hc : c.callee = .builtin .append) (h1 : c.args.size = 2) (h2 : c.argTypes.size = 2) (hi : ((P.underlying (c.argTypes.getD 1 0)).map pO) = some true)
 (he : iF P (c.argTypes.getD 0 0) = some elem) (hs : iD P elem = some size) (hb : nK P elem = some bytes) (hz : jB P elem = some z) (hzs : z.cells.size = size) (hs0 : size ≠ 0) :
 LowPl P ⟨dst, .call c, type, pos, after, guard⟩ (.app elem size bytes (iV (c.args.getD 0 (.tmp 0))) (iV (c.args.getD 1 (.tmp 0)))) := fun C f l H v H1 hf hr => by
 have hr : (c0E P elem size bytes (iV (c.args.getD 0 (.tmp 0))) (iV (c.args.getD 1 (.tmp 0))) f H).Is v H1 := hr
 unfold c0E at hr
 rw [jN hf, jN hf] at hr
 have hD : opD P ⟨dst, .call c, type, pos, after, guard⟩ l H = nH P H (c.argTypes.getD 0 0) (ev l (c.args.getD 0 (.tmp 0))) (ev l (c.args.getD 1 (.tmp 0))) := by
  simp only [opD, hc, h1, h2, hi]; rfl
 rw [hD]
 unfold nH
 rw [he, cW, hs, cW, hb, cW, hz, cW]
 split at hr
 ·rename_i n m hsrc
  rw [hsrc, cW]
  unfold c4S at hr
  split at hr
  ·rename_i k cc hx
   obtain ⟨g1, hq1⟩ := lB hr
   obtain ⟨g2, hq2⟩ := lB hq1
   obtain ⟨g3, hq⟩ := lB hq2
   clear hr hq1 hq2
   obtain rfl : k = 0 := dU g1
   obtain rfl : cc = 0 := dU g2
   have g3 : n * (bytes + 1) ≤ oP := ee g3
   simp only [hx]
   rw [if_pos (by simp [hs0, hzs, g3])]
   rw [kK] at hq
   by_cases hn : n = 0
   ·subst hn
    rw [if_pos (by rfl)] at hq
    obtain ⟨rfl, rfl⟩ := Rs.aN hq
    simp
   ·rw [if_neg (fun e => hn (dU e))] at hq
    obtain ⟨rfl, rfl⟩ := Rs.aS hq
    simp [hn]
  ·rename_i A i e k cc hx
   unfold c4Z at hr
   split at hr
   ·rename_i cs ty lo ver hg
    obtain ⟨g2, hr⟩ := lB hr
    obtain ⟨g4, hr⟩ := lB hr
    obtain ⟨g5, hr⟩ := lB hr
    have g2 : (ty == elem || iD P ty == some size) = true := by
     rw [c4B] at g2
     cases hh : (ty == elem) with
     | true => rfl
     | false => rw [hh] at g2; exact g2
    rw [xR] at g4
    have g4 : e = cs.length := by simpa only [decide_eq_true_eq] using g4
    have g5 : lo ≤ e := ee g5
    simp only [hx, hg]
    rw [kK] at hr
    by_cases g3 : i + k * size = e
    ·rw [if_pos (by simpa using g3)] at hr
     obtain ⟨g1, hr⟩ := lB hr
     obtain ⟨rfl, rfl⟩ := Rs.aS hr
     have g1 : (k + n) * (bytes + 1) ≤ oP := ee g1
     have et : (Bool.rec (motive := fun _ => Nat) 2 ver (Nat.beq ty elem)) = (if (ty == elem) = true then ver else 2) := by
      rw [c4B]
      cases hh : (ty == elem) with
      | true => rfl
      | false => rfl
     rw [et, if_pos (by simp only [g2, fp, cX, bne_iff_ne, beq_iff_eq, decide_eq_true_eq]; exact ⟨⟨⟨⟨⟨hs0, g1⟩, by simpa using hzs⟩, g3⟩, g4⟩, g5⟩)]
    ·rw [if_neg (by simpa using g3)] at hr
     rw [kK] at hr
     by_cases hn : n = 0
     ·rw [if_pos (by simpa using hn)] at hr
      exact absurd hr Rs.aw
     ·rw [if_neg (by simpa using hn)] at hr
      obtain ⟨g6, hr⟩ := lB hr
      obtain ⟨rfl, rfl⟩ := Rs.aS hr
      have g6 : i + (k + n) * size ≤ e := ee g6
      rw [if_neg (by simp [g3]), if_pos (by simp only [g2, fp, cX, bne_iff_ne, beq_iff_eq, decide_eq_true_eq]; exact ⟨⟨⟨⟨⟨hs0, hn⟩, by simpa using hzs⟩, g6⟩, g4⟩, g5⟩), g4]
   ·exact absurd hr Rs.aw
  ·exact absurd hr Rs.aw
 ·exact absurd hr Rs.aw
theorem b3u {c : Call} {k : FuncId} (hc : c.callee = .value (.func k)) (hok : (Op.call c).operands.toList.all iO = true) : vF P ⟨dst, .call c, type, pos, after, guard⟩ (.callF k (kP k) (c.args.toList.map iV)) := fun C H0 f l H v H1 hC hk hf hr => by
 have hr : (a3c f (c.args.toList.map iV) fun l => C.fn (kP k) k l H).Is v H1 := hr
 rw [a5O hf] at hr
 obtain ⟨h1 | hx, h2⟩ := hC.fn _ _ _ _ _ _ hk hr rfl
 case inr => exact ⟨.ext hok c (.func k) k #[] #[] rfl hc rfl (by simpa using hx), h2⟩
 obtain ⟨he, v', H', hcall, rfl, rfl⟩ := h1.fn
 exact ⟨.call hok c (.func k) k #[] #[] rfl hc rfl he (by simpa using hcall), h2⟩
theorem b1y {c : Call} {g : Operand} (hc : c.callee = .value g) (hok : (Op.call c).operands.toList.all iO = true) : vF P ⟨dst, .call c, type, pos, after, guard⟩ (.callV (iV g) (c.args.toList.map iV)) := fun C H0 f l H v H1 hC hk hf hr => by
 have hr : (a3c f (c.args.toList.map iV) fun l => a9N C l H (mJ f (iV g))).Is v H1 := hr
 rw [a5O hf, jN hf] at hr
 unfold a9N at hr
 split at hr
 ·rename_i k a b hg
  rw [jV, lI] at hr
  obtain ⟨h1 | hx, h2⟩ := hC.fn _ _ _ _ _ _ hk hr rfl
  case inr => exact ⟨.ext hok c g k ⟨a⟩ ⟨b⟩ rfl hc hg (by simpa [yJ] using hx), h2⟩
  obtain ⟨he, v', H', hcall, rfl, rfl⟩ := h1.fn
  exact ⟨.call hok c g k ⟨a⟩ ⟨b⟩ rfl hc hg he (by simpa [yJ] using hcall), h2⟩
 ·rename_i L a b hg
  obtain ⟨h1, h2⟩ := hC.rd _ _ _ _ _ hk hr
  exact ⟨.round hok c g L _ _ rfl hc hg h1, h2⟩
 ·exact absurd hr Rs.aw
end
set_option maxHeartbeats 1000000 in
theorem b1d {α : Type} (o : Oper) (K : LOp → α) : ∃ lo, vF P o lo ∧ xW P o K = K lo := by
 unfold xW
 rw [kK]
 by_cases hok : o.op.operands.toList.all iO = true
 case neg => rw [if_neg hok]; exact ⟨_, b8I o, rfl⟩
 rw [if_pos hok]
 have gen : ∃ lo, vF P o lo ∧ K (.gen o) = K lo := ⟨_, (b8V o).low hok, rfl⟩
 obtain ⟨dst, op, type, pos, after, guard⟩ := o
 unfold c4z
 cases op with
 | move x => simp only [kX]; exact ⟨_, (c0R x).low hok, rfl⟩
 | assign x => simp only [kX]; exact ⟨_, (c1N x).low hok, rfl⟩
 | pick c a b => simp only [kX]; exact ⟨_, (b5l c a b).low hok, rfl⟩
 | binOp op t x y yt =>
   simp only [kX, kK]
   split
   ·split
    ·rename_i g hg; exact ⟨_, (b9e hg t yt x y).low hok, rfl⟩
    ·exact gen
   ·exact gen
 | load t x =>
   simp only [kX]
   split
   ·rename_i ht
    cases hn : iD P t with
    | none => exact gen
    | some n => rw [oZ]; exact ⟨_, (b7n ht hn x).low hok, rfl⟩
   ·rename_i ht; exact ⟨_, (b7Y ht x).low hok, rfl⟩
   ·exact gen
 | store t x y =>
   simp only [kX]
   cases hn : iD P t with
   | none => exact gen
   | some n => rw [oZ]; exact ⟨_, (c2h hn x y).low hok, rfl⟩
 | fieldAddr s x k =>
   simp only [kX]
   split
   ·rename_i fd hfd
    split
    ·exact gen
    ·rename_i n hn0 hn
     rw [jV]
     exact ⟨_, (c1p hfd hn (fun e => hn0 e) x).low hok, rfl⟩
    ·exact gen
   ·exact gen
 | indexAddr t x i =>
   simp only [kX]
   split
   ·rename_i elem ht
    cases hs : iD P elem with
    | none => exact gen
    | some n => rw [oZ]; exact ⟨_, (b7F ht hs x i).low hok, rfl⟩
   ·rename_i n elem ht
    cases hs : iD P elem with
    | none => exact gen
    | some m => rw [oZ]; exact ⟨_, (b8N ht hs x i).low hok, rfl⟩
   ·exact gen
 | extract t i => simp only [kX]; rw [jV]; exact ⟨_, (b8B i t).low hok, rfl⟩
 | call c =>
   simp only
   unfold b4c
   split
   ·rename_i k hc
    rw [lI, a3j]
    exact ⟨_, b3u hc hok, rfl⟩
   ·rename_i g _ hc
    rw [kX, a3j]
    exact ⟨_, b1y hc hok, rfl⟩
   ·rename_i hc
    rw [kK]
    split
    ·rename_i h1
     simp only [cX, beq_iff_eq] at h1
     split
     ·rename_i elem ht; rw [kX]; exact ⟨_, (b8c hc h1.1 h1.2 ht).low hok, rfl⟩
     ·rename_i ht; rw [kX]; exact ⟨_, (b6W hc h1.1 h1.2 ht).low hok, rfl⟩
     ·exact gen
    ·exact gen
   ·rename_i hc
    rw [kK]
    split
    ·rename_i h1
     simp only [cX, beq_iff_eq] at h1
     split
     ·rename_i elem he
      cases hs : iD P elem with
      | none => exact gen
      | some size =>
        rw [oZ]
        cases hb : nK P elem with
        | none => exact gen
        | some bytes =>
          rw [oZ]
          split
          ·rename_i z hz
           rw [kK]
           split
           ·rename_i h2
            simp only [cX, beq_iff_eq, bne_iff_ne] at h2
            rw [jV, kX, kX]
            exact ⟨_, (b7E hc h1.1.1 h1.1.2 h1.2 he hs hb hz h2.1 h2.2).low hok, rfl⟩
           ·exact gen
          ·exact gen
     ·exact gen
    ·exact gen
   ·exact gen
 | _ => exact gen
def DOk (k : Nat) (dst : Option Tmp) (d : Option Pth) : Prop := (dst = none ∧ d = none) ∨ ∃ t, dst = some t ∧ t < k ∧ d = some (kP t)
inductive LowOps (P : Program) (k : Nat) (ops : Array Oper) : List Oper → LOps → Prop
 | nil : LowOps P k ops [] .nil
 | cons {o : Oper} {os : List Oper} {d : Option Pth} {lo : LOp} {r : LOps} (hd : DOk k o.dst d) (ho : vF P o lo) (hg : o.guard = none) (hr : LowOps P k ops os r) : LowOps P k ops (o :: os) (.cons d lo r)
 | gcons {o : Oper} {os : List Oper} {d : Option Pth} {lo : LOp} {r : LOps} {j t : Nat} {w : Bool} (hd : DOk k o.dst d) (ho : vF P o lo) (hg : o.guard = some (j, w)) (ht : (ops[j]?).bind (·.dst) = some t) (htk : t < k) (hr : LowOps P k ops os r) : LowOps P k ops (o :: os) (.gcons (kP t) w d lo r)
def GOk (ops : Array Oper) (o : Oper) (g : Option (Pth × Bool)) : Prop := (o.guard = none ∧ g = none) ∨ ∃ j w t, o.guard = some (j, w) ∧ (ops[j]?).bind (·.dst) = some t ∧ g = some (kP t, w)
theorem GOk.runs {ops : Array Oper} {o : Oper} {g : Option (Pth × Bool)} (h : GOk ops o g) {f : Fr} {l : List Value} (hf : FAg f l) (hw : Region.wanted o (iU ops l) = true) : b3L f g = true := by
 rcases h with ⟨_, rfl⟩ | ⟨j, w, t, hg, ht, rfl⟩
 ·rfl
 ·simp only [Region.wanted, hg, iU, ht] at hw
  show isB (nT (kP t) f) w = true
  rw [hf t, oE, dc]
  cases hl : l[t]? with
  | none => rw [hl] at hw; simp at hw
  | some v =>
    rw [hl] at hw
    cases v <;> simp at hw
    subst hw
    rename_i b
    cases b <;> rfl
inductive LowTab (P : Program) (ops : Array Oper) : List (Nat × Nat) → List (Nat × Option Nat × Option (Pth × Bool) × LOp) → Prop
 | nil : LowTab P ops [] []
 | cons {i m : Nat} {o : Oper} {lo : LOp} {tab : List (Nat × Nat)} {t : List (Nat × Option Nat × Option (Pth × Bool) × LOp)} {g : Option (Pth × Bool)} (ho : ops[i]? = some o) (hgd : GOk ops o g) (hl : vF P o lo) (hr : LowTab P ops tab t) :
    LowTab P ops ((i, m) :: tab) ((ops.size - 1 - i, if m < ops.size then some (ops.size - 1 - m) else none, g, lo) :: t)
inductive Low (P : Program) (k : Nat) : Code → LCode → Prop
 | bad (c : Code) : Low P k c .bad
 | skip : Low P k .skip .skip
 | label (t : Nat) : Low P k (.label t) .skip
 | reg {id : Nat} {ops : Array Oper} {d : Bool} {lo : LOps} (h : LowOps P k ops ops.toList lo) (hd : d = true → mV P ops = some []) : Low P k (.region id ops d) (.reg lo)
 | drw {id : Nat} {ops : Array Oper} {lo : LOps} {tab : List (Nat × Nat)} {t : List (Nat × Option Nat × Option (Pth × Bool) × LOp)} (h : LowOps P k ops ops.toList lo) (ht : mV P ops = some tab) (hl : LowTab P ops tab t) : Low P k (.region id ops true) (.drw lo t)
 | seq {a b : Code} {A B : LCode} (ha : Low P k a A) (hb : Low P k b B) : Low P k (.seq a b) (.seq A B)
 | cond {c : Operand} {x y : Code} {X Y : LCode} (hc : iO c = true) (hx : Low P k x X) (hy : Low P k y Y) : Low P k (.cond c x y) (.cond (iV c) X Y)
 | block {id : Nat} {b : Code} {B : LCode} (hb : Low P k b B) : Low P k (.block id b) (.block id B)
 | loop {b : Code} {B : LCode} (hb : Low P k b B) : Low P k (.loop b) (.loop B)
 | exit (id : Nat) : Low P k (.exit id) (.exit id)
 | ret : Low P k .ret .ret
 | range {g : Operand} {ps : Array Tmp} {assign body : Code} {A B : LCode} (hg : iO g = true) (hps : ∀ t ∈ ps.toList, t < k) (ha : Low P k assign A) (hb : Low P k body B) :
    Low P k (.rangeFunc g ps assign body) (.range (iV g) ((List.range k).map kP) (ps.toList.map kP) ps assign body A B)
section
variable {α : Type}
theorem b5K (k : Nat) (dst : Option Tmp) (no : α) (K : Option Pth → α) : (∃ d, DOk k dst d ∧ a6D k dst no K = K d) ∨ a6D k dst no K = no := by
 cases dst with
 | none => exact .inl ⟨none, .inl ⟨rfl, rfl⟩, rfl⟩
 | some t =>
   simp only [a6D, kK]
   split
   ·rename_i h
    rw [lI]
    rw [blt_eq] at h
    exact .inl ⟨_, .inr ⟨t, rfl, by simpa using h, rfl⟩, rfl⟩
   ·exact .inr rfl
theorem a2o (k : Nat) (ops : Array Oper) (l : List Oper) (K : LOps → α) (no : α) : (∃ L, LowOps P k ops l L ∧ tL P k ops l K no = K L) ∨ tL P k ops l K no = no := by
 induction l generalizing K with
 | nil => exact .inl ⟨_, .nil, rfl⟩
 | cons o l ih =>
   let K2 : Option Pth → LOp → α := fun d o' => match o.guard with
    | none => tL P k ops l (fun r => K (.cons d o' r)) no
    | some (j, w) => match (ops[j]?).bind (·.dst) with
      | some t => nQ (Nat.blt t k) no (lK (kP t) fun p => zA w fun w => tL P k ops l (fun r => K (.gcons p w d o' r)) no)
      | none => no
   have e : tL P k ops (o :: l) K no = a6D k o.dst no fun d => xW P o fun o' => K2 d o' := rfl
   rw [e]
   rcases b5K k o.dst no (fun d => xW P o fun o' => K2 d o') with ⟨d, hd, h1⟩ | h1
   ·rw [h1]
    obtain ⟨lo, hlo, h2⟩ := b1d (P := P) o (fun o' => K2 d o')
    rw [h2]
    simp only [K2]
    split
    ·rename_i hg
     rcases ih (fun r => K (.cons d lo r)) with ⟨L, hL, h3⟩ | h3
     ·exact .inl ⟨_, .cons hd hlo hg hL, h3⟩
     ·exact .inr h3
    ·rename_i j w hg
     split
     ·rename_i t ht
      rw [kK]
      split
      ·rename_i htk
       rw [lI, uV]
       rw [blt_eq] at htk
       rcases ih (fun r => K (.gcons (kP t) w d lo r)) with ⟨L, hL, h3⟩ | h3
       ·exact .inl ⟨_, .gcons hd hlo hg ht (by simpa using htk) hL, h3⟩
       ·exact .inr h3
      ·exact .inr rfl
     ·exact .inr rfl
   ·exact .inr h1
theorem c0W (k : Nat) (ops : Array Oper) (o : Oper) (no : α) (K : Option (Pth × Bool) → α) : (∃ g, GOk ops o g ∧ loG k ops o.guard no K = K g) ∨ loG k ops o.guard no K = no := by
 cases hg : o.guard with
 | none => exact .inl ⟨none, .inl ⟨hg, rfl⟩, rfl⟩
 | some x =>
   obtain ⟨j, w⟩ := x
   unfold loG
   cases ht : (ops[j]?).bind (·.dst) with
   | none => exact .inr (by simp only [ht])
   | some t =>
     simp only [ht, kK]
     split
     ·refine .inl ⟨some (kP t, w), .inr ⟨j, w, t, hg, ht, rfl⟩, ?_⟩
      rw [lI, uV]
     ·exact .inr rfl
theorem b5w (k : Nat) (ops : Array Oper) (tab : List (Nat × Nat)) (K : List (Nat × Option Nat × Option (Pth × Bool) × LOp) → α) (no : α) : (∃ t, LowTab P ops tab t ∧ sW P k ops ops.size tab K no = K t) ∨ sW P k ops ops.size tab K no = no := by
 induction tab generalizing K with
 | nil => exact .inl ⟨_, .nil, rfl⟩
 | cons x tab ih =>
   obtain ⟨i, m⟩ := x
   cases ho : ops[i]? with
   | none =>
     refine .inr ?_
     show (match ops[i]? with
      | some o => _
      | none => no) = no
     rw [ho]
   | some o =>
     let K2 : Option (Pth × Bool) → LOp → α := fun g o' => kA (ops.size - 1 - i) fun i => nQ (Nat.blt m ops.size) (sW P k ops ops.size tab (fun l => K ((i, none, g, o') :: l)) no) (kA (ops.size - 1 - m) fun m => sW P k ops ops.size tab (fun l => K ((i, some m, g, o') :: l)) no)
     have e : sW P k ops ops.size ((i, m) :: tab) K no = loG k ops o.guard no fun g => xW P o fun o' => K2 g o' := by
      show (match ops[i]? with
       | some o => loG k ops o.guard no fun g => xW P o fun o' => K2 g o'
       | none => no) = _
      rw [ho]
     rw [e]
     rcases c0W k ops o no (fun g => xW P o fun o' => K2 g o') with ⟨g, hgd, h1⟩ | h1
     ·rw [h1]
      obtain ⟨lo, hlo, h2⟩ := b1d (P := P) o (fun o' => K2 g o')
      rw [h2]
      show (∃ t, _ ∧ kA (ops.size - 1 - i) (fun i => nQ (Nat.blt m ops.size) (sW P k ops ops.size tab (fun l => K ((i, none, g, lo) :: l)) no) (kA (ops.size - 1 - m) fun m => sW P k ops ops.size tab (fun l => K ((i, some m, g, lo) :: l)) no)) = K t) ∨ kA (ops.size - 1 - i) (fun i => nQ (Nat.blt m ops.size) (sW P k ops ops.size tab (fun l => K ((i, none, g, lo) :: l)) no) (kA (ops.size - 1 - m) fun m => sW P k ops ops.size tab (fun l => K ((i, some m, g, lo) :: l)) no)) = no
      rw [jV, kK, jV, blt_eq]
      by_cases hm : m < ops.size
      ·rw [if_pos (by simpa using hm)]
       rcases ih (fun l => K ((ops.size - 1 - i, some (ops.size - 1 - m), g, lo) :: l)) with ⟨t, ht, h3⟩ | h3
       ·have := LowTab.cons (m := m) ho hgd hlo ht
        rw [if_pos hm] at this
        exact .inl ⟨_, this, h3⟩
       ·exact .inr h3
      ·rw [if_neg (by simpa using hm)]
       rcases ih (fun l => K ((ops.size - 1 - i, none, g, lo) :: l)) with ⟨t, ht, h3⟩ | h3
       ·have := LowTab.cons (m := m) ho hgd hlo ht
        rw [if_neg hm] at this
        exact .inl ⟨_, this, h3⟩
       ·exact .inr h3
     ·exact .inr h1
theorem b2G (k : Nat) (l : List Tmp) (K : List Pth → α) (no : α) : ((∀ t ∈ l, t < k) ∧ wI k l K no = K (l.map kP)) ∨ wI k l K no = no := by
 induction l generalizing K with
 | nil => exact .inl ⟨by simp, rfl⟩
 | cons t l ih =>
   show _ ∨ nQ (Nat.blt t k) no (lK (kP t) fun p => wI k l (fun l => K (p :: l)) no) = no
   have e : wI k (t :: l) K no = nQ (Nat.blt t k) no (lK (kP t) fun p => wI k l (fun l => K (p :: l)) no) := rfl
   rw [e, kK, lI, blt_eq]
   by_cases h : t < k
   ·rw [if_pos (by simpa using h)]
    rcases ih (fun l => K (kP t :: l)) with ⟨h1, h2⟩ | h2
    ·exact .inl ⟨by simpa using ⟨h, h1⟩, h2⟩
    ·exact .inr h2
   ·rw [if_neg (by simpa using h)]; exact .inr rfl
theorem b1o (k : Nat) (c : Code) (K : LCode → α) : ∃ C, Low P k c C ∧ nB P k c K = K C := by
 induction c generalizing K with
 | skip => exact ⟨_, .skip, rfl⟩
 | region id ops d =>
   cases d with
   | false =>
     show ∃ C, _ ∧ tL P k ops ops.toList (fun l => K (.reg l)) (K .bad) = K C
     rcases a2o (P := P) k ops ops.toList (fun l => K (.reg l)) (K .bad) with ⟨L, hL, h⟩ | h
     ·exact ⟨_, .reg hL (fun h => by cases h), h⟩
     ·exact ⟨_, .bad _, h⟩
   | true =>
     show ∃ C, _ ∧ (match mV P ops with
      | some [] => tL P k ops ops.toList (fun l => K (.reg l)) (K .bad)
      | some tab => tL P k ops ops.toList (fun l => sW P k ops ops.size tab (fun t => K (.drw l t)) (K .bad)) (K .bad)
      | none => K .bad) = K C
     split
     ·rename_i hd
      rcases a2o (P := P) k ops ops.toList (fun l => K (.reg l)) (K .bad) with ⟨L, hL, h⟩ | h
      ·exact ⟨_, .reg hL (fun _ => hd), h⟩
      ·exact ⟨_, .bad _, h⟩
     ·rename_i tab _ hd
      rcases a2o (P := P) k ops ops.toList (fun l => sW P k ops ops.size tab (fun t => K (.drw l t)) (K .bad)) (K .bad) with ⟨L, hL, h⟩ | h
      ·rw [h]
       rcases b5w (P := P) k ops tab (fun t => K (.drw L t)) (K .bad) with ⟨t, ht, h2⟩ | h2
       ·exact ⟨_, .drw hL hd ht, h2⟩
       ·exact ⟨_, .bad _, h2⟩
      ·exact ⟨_, .bad _, h⟩
     ·exact ⟨_, .bad _, rfl⟩
 | seq a b iha ihb =>
   show ∃ C, _ ∧ nB P k a (fun a => nB P k b fun b => K (.seq a b)) = K C
   obtain ⟨A, hA, h1⟩ := iha (fun a => nB P k b fun b => K (.seq a b))
   obtain ⟨B, hB, h2⟩ := ihb (fun b => K (.seq A b))
   exact ⟨_, .seq hA hB, h1.trans h2⟩
 | cond c x y ihx ihy =>
   show ∃ C, _ ∧ nQ (iO c) (K .bad) (lO c fun c => nB P k x fun x => nB P k y fun y => K (.cond c x y)) = K C
   rw [kK]
   split
   ·rename_i hc
    rw [kX]
    obtain ⟨X, hX, h1⟩ := ihx (fun x => nB P k y fun y => K (.cond (iV c) x y))
    obtain ⟨Y, hY, h2⟩ := ihy (fun y => K (.cond (iV c) X y))
    exact ⟨_, .cond hc hX hY, h1.trans h2⟩
   ·exact ⟨_, .bad _, rfl⟩
 | block id b ih =>
   show ∃ C, _ ∧ kA id (fun id => nB P k b fun b => K (.block id b)) = K C
   rw [jV]
   obtain ⟨B, hB, h1⟩ := ih (fun b => K (.block id b))
   exact ⟨_, .block hB, h1⟩
 | loop b ih =>
   show ∃ C, _ ∧ nB P k b (fun b => K (.loop b)) = K C
   obtain ⟨B, hB, h1⟩ := ih (fun b => K (.loop b))
   exact ⟨_, .loop hB, h1⟩
 | rangeFunc g ps assign body iha ihb =>
   show ∃ C, _ ∧ nQ (iO g) (K .bad) (lO g fun g' => b3m k fun pp => wI k ps.toList (fun q => nB P k assign fun a => nB P k body fun b => K (.range g' pp q ps assign body a b)) (K .bad)) = K C
   rw [kK]
   split
   ·rename_i hg
    rw [kX, b0J]
    rcases b2G k ps.toList (fun q => nB P k assign fun a => nB P k body fun b => K (.range (iV g) ((List.range k).map kP) q ps assign body a b)) (K .bad) with ⟨hps, h⟩ | h
    ·obtain ⟨A, hA, h1⟩ := iha (fun a => nB P k body fun b => K (.range (iV g) ((List.range k).map kP) (ps.toList.map kP) ps assign body a b))
     obtain ⟨B, hB, h2⟩ := ihb (fun b => K (.range (iV g) ((List.range k).map kP) (ps.toList.map kP) ps assign body A b))
     exact ⟨_, .range hg hps hA hB, h.trans (h1.trans h2)⟩
    ·exact ⟨_, .bad _, h⟩
   ·exact ⟨_, .bad _, rfl⟩
 | exit id =>
   show ∃ C, _ ∧ kA id (fun id => K (.exit id)) = K C
   rw [jV]
   exact ⟨_, .exit id, rfl⟩
 | label t => exact ⟨_, .label t, rfl⟩
 | ret => exact ⟨_, .ret, rfl⟩
 | scope b _ => exact ⟨_, .bad _, rfl⟩
 | goto t => exact ⟨_, .bad _, rfl⟩
 | refuse w => exact ⟨_, .bad _, rfl⟩
end
theorem uT {α : Type} {k : Nat} {f : Fr} {l : List Value} (h : FRel k f l) {dst : Option Tmp} {d : Option Pth} (hd : DOk k dst d) (v : Value) (K : Fr → α) : ∃ f', uJ d v f K = K f' ∧ FRel k f' (put l dst v) := by
 rcases hd with ⟨rfl, rfl⟩ | ⟨t, rfl, ht, rfl⟩
 ·exact ⟨f, rfl, h⟩
 ·exact ⟨b6N f t v, sS v (kP t) f K, h.put ht v⟩
theorem wR {ops : Array Oper} {l : List Value} {j t : Nat} (ht : (ops[j]?).bind (·.dst) = some t) (htl : t < l.length) (w : Bool) : (iU ops l j == some w) = isB (get l t) w := by
 have hg : get l t = l[t] := by rw [oE]; simp [htl]
 unfold iU
 rw [ht, hg]
 simp only [dq htl]
 cases hv : l[t] <;> simp [isB]
 rename_i b
 cases b <;> cases w <;> rfl
theorem b9k {k : Nat} {ops : Array Oper} {C : Calls'} {H0 : Heap} (hC : CallsOk P C H0) {os : List Oper} {lo : LOps} (hlo : LowOps P k ops os lo) : ∀ {i : Nat}, ops.toList.drop i = os → ∀ {f : Fr} {l : List Value} {H : Heap} {f1 : Fr} {H1 : Heap},
 FRel k f l → LK H0 H → xC P C lo f H = .ok f1 H1 → ∃ l1, FRel k f1 l1 ∧ OpsR P ops (List.range' i os.length) l H l1 H1 ∧ LK H H1 := by
 induction hlo with
 | nil =>
   intro i _ f l H f1 H1 hf _ h
   injection h with h1 h2
   subst h1 h2
   exact ⟨l, hf, .nil l H, .refl H⟩
 | @cons o os d lo r hd ho hg hr ih =>
   intro i hi f l H f1 H1 hf hk h
   have hio : ops[i]? = some o := by
    have : (ops.toList.drop i)[0]? = some o := by rw [hi]; rfl
    rw [dH] at this
    simpa using this
   have hi' : ops.toList.drop (i + 1) = os := by rw [← ft, hi]; rfl
   have hw : Region.wanted o (iU ops l) = true := by simp [Region.wanted, hg]
   have h : b0H Rf.no d f (xC P C r) (opF P C lo f H) = .ok f1 H1 := h
   have key : ∀ v H2, (opF P C lo f H).Is v H2 → (uJ d v f fun f => xC P C r f H2) = .ok f1 H1 → ∃ l1, FRel k f1 l1 ∧ OpsR P ops (List.range' i (o :: os).length) l H l1 H1 ∧ LK H H1 := by
    intro v H2 hop hrest
    obtain ⟨hs, hk2⟩ := ho C H0 f l H v H2 hC hk hf.2 hop
    obtain ⟨f', e, hf'⟩ := uT hf hd v (fun f => xC P C r f H2)
    rw [e] at hrest
    obtain ⟨l1, h1, h2, h3⟩ := ih hi' hf' (hk.trans hk2) hrest
    exact ⟨l1, h1, .step hio hw hs h2, hk2.trans h3⟩
   cases hop : opF P C lo f H with
   | no => rw [hop] at h; cases h
   | ok v H2 => rw [hop] at h; exact key v H2 (.inl hop) h
   | th v H2 =>
     rw [hop] at h
     have h : xO v (fun v => nJ H2 fun H2 => uJ d v f fun f => xC P C r f H2) = .ok f1 H1 := h
     rw [wV, lU] at h
     exact key v H2 (.inr hop) h
 | @gcons o os d lo r j t w hd ho hg ht htk hr ih =>
   intro i hi f l H f1 H1 hf hk h
   have hio : ops[i]? = some o := by
    have : (ops.toList.drop i)[0]? = some o := by rw [hi]; rfl
    rw [dH] at this
    simpa using this
   have hi' : ops.toList.drop (i + 1) = os := by rw [← ft, hi]; rfl
   have hwi : Region.wanted o (iU ops l) = isB (nT (kP t) f) w := by
    simp only [Region.wanted, hg]
    rw [wR ht (by rw [hf.1]; exact htk) w, hf.2 t]
   have h : nQ (isB (nT (kP t) f) w) (uJ d undef f fun f => xC P C r f H) (b0H Rf.no d f (xC P C r) (opF P C lo f H)) = .ok f1 H1 := h
   rw [kK] at h
   split at h
   ·rename_i hb
    have key : ∀ v H2, (opF P C lo f H).Is v H2 → (uJ d v f fun f => xC P C r f H2) = .ok f1 H1 → ∃ l1, FRel k f1 l1 ∧ OpsR P ops (List.range' i (o :: os).length) l H l1 H1 ∧ LK H H1 := by
     intro v H2 hop hrest
     obtain ⟨hs, hk2⟩ := ho C H0 f l H v H2 hC hk hf.2 hop
     obtain ⟨f', e, hf'⟩ := uT hf hd v (fun f => xC P C r f H2)
     rw [e] at hrest
     obtain ⟨l1, h1, h2, h3⟩ := ih hi' hf' (hk.trans hk2) hrest
     exact ⟨l1, h1, .step hio (by rw [hwi, hb]) hs h2, hk2.trans h3⟩
    cases hop : opF P C lo f H with
    | no => rw [hop] at h; cases h
    | ok v H2 => rw [hop] at h; exact key v H2 (.inl hop) h
    | th v H2 =>
      rw [hop] at h
      have h : xO v (fun v => nJ H2 fun H2 => uJ d v f fun f => xC P C r f H2) = .ok f1 H1 := h
      rw [wV, lU] at h
      exact key v H2 (.inr hop) h
   ·rename_i hb
    obtain ⟨f', e, hf'⟩ := uT hf hd undef (fun f => xC P C r f H)
    rw [e] at h
    obtain ⟨l1, h1, h2, h3⟩ := ih hi' hf' hk h
    exact ⟨l1, h1, .past hio (by rw [hwi]; simpa using hb) h2, h3⟩
structure Noted (P : Program) (k : Nat) (ops : Array Oper) (H : Heap) (i n : Nat) (T : Nat → List Value × Heap) (val : Nat → Value) (tr0 tr : List (Fr × Heap × Value)) : Prop where
 step : ∀ j, i ≤ j → j < i + n → vI P ops j (T j) (T (j + 1)) (val j)
 new : ∀ j, i ≤ j → j < i + n → ∃ g, tr[i + n - 1 - j]? = some (g, (T j).2, val j) ∧ FAg g (T j).1
 old : ∀ m, tr[n + m]? = tr0[m]?
 lk : ∀ j, i ≤ j → j ≤ i + n → LK H (T j).2
theorem b6p {k : Nat} {ops : Array Oper} {C : Calls'} {H0 : Heap} (hC : CallsOk P C H0) {os : List Oper} {lo : LOps} (hlo : LowOps P k ops os lo) : ∀ {i : Nat}, ops.toList.drop i = os → ∀ {tr0 tr : List (Fr × Heap × Value)} {f : Fr} {l : List Value} {H : Heap} {f1 : Fr} {H1 : Heap},
 FRel k f l → LK H0 H → qW P C lo tr0 f H = .ok tr f1 H1 → ∃ T val l1, T i = (l, H) ∧ T (i + os.length) = (l1, H1) ∧ FRel k f1 l1 ∧ Noted P k ops H i os.length T val tr0 tr := by
 have more : ∀ {i n : Nat} {o : Oper} {tr0 tr : List (Fr × Heap × Value)} {f : Fr} {l : List Value} {H : Heap} {v : Value} {l2 : List Value} {H2 : Heap} {l1 : List Value} {H1 : Heap} {f1 : Fr}, FRel k f l → vI P ops i (l, H) (l2, H2) v → LK H H2 →
  (∃ T val l1, T (i + 1) = (l2, H2) ∧ T (i + 1 + n) = (l1, H1) ∧ FRel k f1 l1 ∧ Noted P k ops H2 (i + 1) n T val ((f, H, v) :: tr0) tr) →
  ∃ T val l1, T i = (l, H) ∧ T (i + (n + 1)) = (l1, H1) ∧ FRel k f1 l1 ∧ Noted P k ops H i (n + 1) T val tr0 tr := by
  intro i n o tr0 tr f l H v l2 H2 _ H1 f1 hf hst hk ⟨T, val, l1, h1, h2, h3, hN⟩
  refine ⟨fun j => if j ≤ i then (l, H) else T j, fun j => if j ≤ i then v else val j, l1, by simp, ?_, h3, ?_⟩
  ·show (if i + (n + 1) ≤ i then (l, H) else T (i + (n + 1))) = _
   rw [if_neg (by omega), ← h2]; congr 1; omega
  ·refine ⟨fun j hj hn => ?_, fun j hj hn => ?_, fun m => ?_, fun j hj hn => ?_⟩
   ·by_cases he : j = i
    ·subst he
     simp only [dj, if_true]
     rw [if_neg (by omega), h1]
     exact hst
    ·rw [if_neg (by omega), if_neg (by omega), if_neg (by omega)]
     exact hN.step j (by omega) (by omega)
   ·by_cases he : j = i
    ·subst he
     simp only [dj, if_true]
     refine ⟨f, ?_, hf.2⟩
     have := hN.old 0
     rw [show j + (n + 1) - 1 - j = n + 0 by omega, this]; rfl
    ·rw [if_neg (by omega), if_neg (by omega)]
     obtain ⟨g, hg, hag⟩ := hN.new j (by omega) (by omega)
     exact ⟨g, by rw [← hg]; congr 1; omega, hag⟩
   ·have := hN.old (m + 1)
    rw [show n + 1 + m = n + (m + 1) by omega, this]; rfl
   ·by_cases he : j = i
    ·subst he; simp only [dj, if_true]; exact .refl H
    ·rw [if_neg (by omega)]; exact hk.trans (hN.lk j (by omega) (by omega))
 induction hlo with
 | nil =>
   intro i _ tr0 tr f l H f1 H1 hf _ h
   injection h with h1 h2 h3
   subst h1 h2 h3
   exact ⟨fun _ => (l, H), fun _ => undef, l, rfl, rfl, hf, fun j _ h => absurd h (by simp; omega), fun j _ h => absurd h (by simp; omega), fun m => by simp, fun _ _ _ => .refl H⟩
 | @cons o os d lo r hd ho hg hr ih =>
   intro i hi tr0 tr f l H f1 H1 hf hk h
   have hio : ops[i]? = some o := by
    have : (ops.toList.drop i)[0]? = some o := by rw [hi]; rfl
    rw [dH] at this
    simpa using this
   have hi' : ops.toList.drop (i + 1) = os := by rw [← ft, hi]; rfl
   have hw : Region.wanted o (iU ops l) = true := by simp [Region.wanted, hg]
   have h : b0y tr0 f H d (qW P C r) (opF P C lo f H) = .ok tr f1 H1 := h
   have key : ∀ v H2, (opF P C lo f H).Is v H2 → (uJ d v f fun f2 => qW P C r ((f, H, v) :: tr0) f2 H2) = .ok tr f1 H1 → ∃ T val l1, T i = (l, H) ∧ T (i + (o :: os).length) = (l1, H1) ∧ FRel k f1 l1 ∧ Noted P k ops H i (o :: os).length T val tr0 tr := by
    intro v H2 hop hrest
    obtain ⟨hs, hk2⟩ := ho C H0 f l H v H2 hC hk hf.2 hop
    obtain ⟨f', e, hf'⟩ := uT hf hd v (fun f2 => qW P C r ((f, H, v) :: tr0) f2 H2)
    rw [e] at hrest
    have := ih hi' hf' (hk.trans hk2) hrest
    exact more (o := o) (l1 := l) hf ⟨o, hio, rfl, .inl ⟨hw, hs⟩⟩ hk2 this
   cases hop : opF P C lo f H with
   | no => rw [hop] at h; cases h
   | ok v H2 => rw [hop] at h; exact key v H2 (.inl hop) h
   | th v H2 =>
     rw [hop] at h
     have h : xO v (fun v => nJ H2 fun H2 => uJ d v f fun f2 => qW P C r ((f, H, v) :: tr0) f2 H2) = .ok tr f1 H1 := h
     rw [wV, lU] at h
     exact key v H2 (.inr hop) h
 | @gcons o os d lo r j t w hd ho hg ht htk hr ih =>
   intro i hi tr0 tr f l H f1 H1 hf hk h
   have hio : ops[i]? = some o := by
    have : (ops.toList.drop i)[0]? = some o := by rw [hi]; rfl
    rw [dH] at this
    simpa using this
   have hi' : ops.toList.drop (i + 1) = os := by rw [← ft, hi]; rfl
   have hwi : Region.wanted o (iU ops l) = isB (nT (kP t) f) w := by
    simp only [Region.wanted, hg]
    rw [wR ht (by rw [hf.1]; exact htk) w, hf.2 t]
   have h : nQ (isB (nT (kP t) f) w) (uJ d undef f fun f2 => qW P C r ((f, H, undef) :: tr0) f2 H) (b0y tr0 f H d (qW P C r) (opF P C lo f H)) = .ok tr f1 H1 := h
   rw [kK] at h
   split at h
   ·rename_i hb
    have key : ∀ v H2, (opF P C lo f H).Is v H2 → (uJ d v f fun f2 => qW P C r ((f, H, v) :: tr0) f2 H2) = .ok tr f1 H1 → ∃ T val l1, T i = (l, H) ∧ T (i + (o :: os).length) = (l1, H1) ∧ FRel k f1 l1 ∧ Noted P k ops H i (o :: os).length T val tr0 tr := by
     intro v H2 hop hrest
     obtain ⟨hs, hk2⟩ := ho C H0 f l H v H2 hC hk hf.2 hop
     obtain ⟨f', e, hf'⟩ := uT hf hd v (fun f2 => qW P C r ((f, H, v) :: tr0) f2 H2)
     rw [e] at hrest
     exact more (o := o) (l1 := l) hf ⟨o, hio, rfl, .inl ⟨by rw [hwi, hb], hs⟩⟩ hk2 (ih hi' hf' (hk.trans hk2) hrest)
    cases hop : opF P C lo f H with
    | no => rw [hop] at h; cases h
    | ok v H2 => rw [hop] at h; exact key v H2 (.inl hop) h
    | th v H2 =>
      rw [hop] at h
      have h : xO v (fun v => nJ H2 fun H2 => uJ d v f fun f2 => qW P C r ((f, H, v) :: tr0) f2 H2) = .ok tr f1 H1 := h
      rw [wV, lU] at h
      exact key v H2 (.inr hop) h
   ·rename_i hb
    obtain ⟨f', e, hf'⟩ := uT hf hd undef (fun f2 => qW P C r ((f, H, undef) :: tr0) f2 H)
    rw [e] at h
    exact more (o := o) (l1 := l) hf ⟨o, hio, rfl, .inr ⟨by rw [hwi]; simpa using hb, rfl, rfl⟩⟩ (.refl H) (ih hi' hf' hk h)
theorem b0C {α : Type} (p : α → Bool) (l : List α) : b5N p l = l.all p := by
 induction l with
 | nil => rfl
 | cons x l ih =>
   show nQ (p x) false (b5N p l) = _
   rw [kK, ih, fo]
   cases p x <;> rfl
theorem b8H {v : Value} {r : Rs} (h : b8m v r = true) : ∃ H, r.Is v H := by
 cases r with
 | no => cases h
 | ok w H => exact ⟨H, .inl (by rw [b6v (show veq w v = true from h)])⟩
 | th w H => exact ⟨H, .inr (by rw [b6v (show veq w v = true from h)])⟩
theorem LowTab.get {ops : Array Oper} {tab : List (Nat × Nat)} {t : List (Nat × Option Nat × Option (Pth × Bool) × LOp)} (h : LowTab P ops tab t) {i m : Nat} (hm : (i, m) ∈ tab) : ∃ o lo g, ops[i]? = some o ∧ GOk ops o g ∧ vF P o lo ∧ (ops.size - 1 - i, (if m < ops.size then some (ops.size - 1 - m) else none), g, lo) ∈ t := by
 induction h with
 | nil => cases hm
 | @cons i2 m2 o lo tab t g ho hgd hl hr ih =>
   rcases ew.1 hm with he | hm
   ·injection he with h1 h2
    subst h1 h2
    exact ⟨o, lo, g, ho, hgd, hl, by simp⟩
   ·obtain ⟨o', lo', g', h1, h0, h2, h3⟩ := ih hm
    exact ⟨o', lo', g', h1, h0, h2, eM _ h3⟩
theorem a8W {fl : Fl} {ops : Array Oper} {i m : Nat} (h : (i, m) ∈ mG fl ops) {o : Oper} (ho : ops[i]? = some o) : nM o.op = true := by
 unfold mG at h
 simp only [fj] at h
 obtain ⟨⟨x, j⟩, hx, h⟩ := h
 dsimp only at h
 split at h
 ·rename_i hr
  simp only [dE] at h
  obtain ⟨m', _, e⟩ := h
  injection e with e1 e2
  subst e1
  have := gm.1 hx
  have : ops[j]? = some x := by simpa using this
  rw [this] at ho
  injection ho with ho
  subst ho
  exact hr
 ·cases h
theorem b8a (kE : P.follows .mixedOrders = true) {k id : Nat} {ops : Array Oper} {C : Calls'} {H : Heap} (hC : CallsOk P C H) {lo : LOps} {tab : List (Nat × Nat)} {t : List (Nat × Option Nat × Option (Pth × Bool) × LOp)} (hlo : LowOps P k ops ops.toList lo) (htab : mV P ops = some tab) (hl : LowTab P ops tab t)
 {f : Fr} {l : List Value} {e : Ex} {f1 : Fr} {H1 : Heap} (hf : FRel k f l) (h : c0h P C t (qW P C lo [] f H) = .ok e f1 H1) : ∃ l1, e = .normal ∧ FRel k f1 l1 ∧ Sim P (.region id ops true) l H .normal l1 H1 ∧ LK H H1 := by
 cases hr : qW P C lo [] f H with
 | no => rw [hr] at h; cases h
 | ok tr f2 H2 =>
   rw [hr] at h
   have h : nQ (b5N (b3Z P C tr H2) t) Rc.no (.ok .normal f2 H2) = .ok e f1 H1 := h
   rw [kK] at h
   split at h
   case isFalse => cases h
   rename_i hall
   injection h with h1 h2 h3
   subst h1 h2 h3
   obtain ⟨T, val, l1, hT0, hTn, hf1, hN⟩ := b6p hC hlo (i := 0) rfl hf (.refl H) hr
   rw [fy, fM] at hTn
   rw [fy] at hN
   have hlk : LK H H2 := by have := hN.lk ops.size (eL _) (by omega); rwa [hTn] at this
   refine ⟨l1, rfl, hf1, ?_, hlk⟩
   have := Sim.draw kE (id := id) htab (T := T) (val := val) ⟨fun j hj => hN.step j (eL _) (by omega)⟩ ?_
   ·rw [hT0, hTn] at this; exact this
   ·intro i m o hm ho hw
    obtain ⟨o', lo', gd, ho', hgd, hlow, hmem⟩ := hl.get hm
    rw [ho] at ho'
    obtain rfl := cV ho'
    rw [b0C, dr] at hall
    have hrd := hall _ hmem
    have hi : i < ops.size := (dg.1 ho).1
    obtain ⟨g, hg, hag⟩ := hN.new i (eL _) (by omega)
    have hg : tr[ops.size - 1 - i]? = some (g, (T i).2, val i) := by rw [← hg]; congr 1; omega
    have hread : nM o.op = true := by
     obtain ⟨fl, _, rfl⟩ := pY htab
     exact a8W hm ho
    have fin : ∀ H3, LK H H3 → b8m (val i) (opF P C lo' g H3) = true → ∃ H4, opD P o (T i).1 H3 = some (val i, H4) := by
     intro H3 hk3 hq
     obtain ⟨H4, h4⟩ := b8H hq
     obtain ⟨hs, _⟩ := hlow C H g (T i).1 H3 (val i) H4 hC hk3 hag h4
     refine ⟨H4, hs.opD fun c fv hc hv => ?_⟩
     rw [hc] at hread
     simp [nM, hv] at hread
    unfold b3Z at hrd
    simp only [xD, hg, hgd.runs hag hw] at hrd
    rw [kK, if_pos rfl] at hrd
    by_cases hms : m < ops.size
    ·rw [if_pos hms] at hrd
     obtain ⟨g2, hg2, _⟩ := hN.new m (eL _) (by omega)
     have hg2 : tr[ops.size - 1 - m]? = some (g2, (T m).2, val m) := by rw [← hg2]; congr 1; omega
     simp only [hg2] at hrd
     exact fin _ (hN.lk m (eL _) (by omega)) hrd
    ·rw [if_neg hms] at hrd
     have hle : m = ops.size := by
      obtain ⟨fl, _, rfl⟩ := pY htab
      have := a1x hm
      omega
     subst hle
     have := fin H2 hlk hrd
     rw [hTn]; exact this
def tO (P : Program) : List ResultVar → List LRes → Prop
 | [], [] => True
 | r :: rs, l :: ls => (match r, l with
   | .tmp t, .t p => p = kP t
   | .cell a t, .c1 p => p = kP a ∧ jK P t = some false
   | .cell a t, .cn n p => p = kP a ∧ jK P t = some true ∧ iD P t = some n
   | _, _ => False) ∧ tO P rs ls
 | _, _ => False
theorem b4V {α : Type} (l : List ResultVar) (K : List LRes → α) (no : α) : (∃ r, tO P l r ∧ a0r P l K no = K r) ∨ a0r P l K no = no := by
 induction l generalizing K with
 | nil => exact .inl ⟨[], trivial, rfl⟩
 | cons r l ih =>
   cases r with
   | tmp t =>
     have e : a0r P (.tmp t :: l) K no = lK (kP t) fun p => a0r P l (fun l => K (.t p :: l)) no := rfl
     rw [e, lI]
     rcases ih (fun l => K (.t (kP t) :: l)) with ⟨q, h1, h2⟩ | h2
     ·exact .inl ⟨.t (kP t) :: q, ⟨rfl, h1⟩, h2⟩
     ·exact .inr h2
   | cell a t =>
     have e : a0r P (.cell a t :: l) K no = match jK P t with
      | some true => a2F (iD P t) no fun n => lK (kP a) fun p => a0r P l (fun l => K (.cn n p :: l)) no
      | some false => lK (kP a) fun p => a0r P l (fun l => K (.c1 p :: l)) no
      | none => no := rfl
     rw [e]
     split
     ·rename_i ha
      cases hn : iD P t with
      | none => exact .inr rfl
      | some n =>
        rw [oZ, lI]
        rcases ih (fun l => K (.cn n (kP a) :: l)) with ⟨q, h1, h2⟩ | h2
        ·exact .inl ⟨.cn n (kP a) :: q, ⟨⟨rfl, ha, hn⟩, h1⟩, h2⟩
        ·exact .inr h2
     ·rename_i ha
      rw [lI]
      rcases ih (fun l => K (.c1 (kP a) :: l)) with ⟨q, h1, h2⟩ | h2
      ·exact .inl ⟨.c1 (kP a) :: q, ⟨⟨rfl, ha⟩, h1⟩, h2⟩
      ·exact .inr h2
     ·exact .inr rfl
theorem b1e {H H1 : Heap} {f : Fr} {l : List Value} (hf : FAg f l) {r : ResultVar} {q : LRes} {rs : List ResultVar} {qs : List LRes} (h : tO P (r :: rs) (q :: qs)) {v : Value} (hv : (a3r H f q).Is v H1) : H1 = H ∧ a1a P l H r = some v ∧ tO P rs qs := by
 obtain ⟨h, hr⟩ := h
 cases r with
 | tmp t => cases q with
   | t p =>
     have h : p = kP t := h
     subst h
     have hv : (oB (nT (kP t) f) fun v => Rs.ok v H).Is v H1 := hv
     rw [mS] at hv
     obtain ⟨rfl, rfl⟩ := Rs.aN hv
     exact ⟨rfl, by rw [hf t]; rfl, hr⟩
   | c1 p => exact h.elim
   | cn n p => exact h.elim
 | cell a t => cases q with
   | t p => exact h.elim
   | c1 p =>
     obtain ⟨rfl, ha⟩ := h
     obtain ⟨e, h1⟩ := b0s (P := P) (X := .t (kP a)) (w := get l a) ha (hf a) hv
     exact ⟨e, h1, hr⟩
   | cn n p =>
     obtain ⟨rfl, ha, hn⟩ := h
     obtain ⟨e, h1⟩ := b0O (P := P) (X := .t (kP a)) (w := get l a) ha hn (hf a) hv
     exact ⟨e, h1, hr⟩
theorem b9g {H : Heap} {f : Fr} {q : LRes} {v : Value} {H1 : Heap} : ¬ (a3r H f q = .th v H1) := by
 intro h
 cases q with
 | t p =>
   have h : (oB (nT p f) fun v => Rs.ok v H) = .th v H1 := h
   rw [mS] at h; cases h
 | c1 p =>
   have h : b3g (.t p) f H = .th v H1 := h
   unfold b3g at h
   split at h
   ·unfold b8S at h
    split at h
    ·rw [kK, kK, kK] at h
     split at h
     ·split at h
      ·split at h
       ·rename_i cs _ _ _ _ _ _ _ _
        cases hn : a0P cs _ with
        | none => rw [hn] at h; cases h
        | some w => rw [hn] at h; have h : (oB w fun v => Rs.ok v H) = .th v H1 := h; rw [mS] at h; cases h
       ·cases h
      ·cases h
     ·cases h
    ·cases h
   ·unfold c1i at h
    split at h
    ·rw [kK] at h
     split at h
     ·rename_i cs _ _ _ _
      cases hn : a0P cs _ with
      | none => rw [hn] at h; cases h
      | some w => rw [hn] at h; have h : (oB w fun v => Rs.ok v H) = .th v H1 := h; rw [mS] at h; cases h
     ·cases h
    ·cases h
   ·cases h
 | cn n p =>
   have hh : b1n n (.t p) f H = .th v H1 := h
   unfold b1n at hh
   split at hh
   ·unfold b8e at hh
    split at hh
    ·rw [kK, kK, kK] at hh
     split at hh
     ·split at hh
      ·split at hh
       ·have key : ∀ {cs : List Value} {n : Nat} {pre : List Value}, ¬ (a2x cs n fun l => Rs.ok (.agg ⟨pre ++ l⟩) H) = .th v H1 := by
         intro cs
         induction cs with
         | nil => intro n pre h; cases n <;> cases h
         | cons c cs ih =>
           intro n pre h
           cases n with
           | zero => cases h
           | succ n =>
             have h : (a2x cs n fun l => Rs.ok (.agg ⟨pre ++ (c :: l)⟩) H) = .th v H1 := h
             have e : ∀ l : List Value, pre ++ (c :: l) = (pre ++ [c]) ++ l := by intro l; simp
             have h2 : (a2x cs n fun l => Rs.ok (.agg ⟨(pre ++ [c]) ++ l⟩) H) = .th v H1 := by
              rw [← h]; congr 1; funext l; rw [e l]
             exact ih h2
        exact key (pre := []) hh
       ·cases hh
      ·cases hh
     ·cases hh
    ·cases hh
   ·cases hh
theorem a6h {H H1 : Heap} {f : Fr} {l : List Value} (hf : FAg f l) {v : Value} : ∀ {rs : List ResultVar} {qs : List LRes} {K : List Value → Rs}, tO P rs qs → (b4r H f qs K).Is v H1 → ∃ vs, nG P l H rs = some vs ∧ (K vs).Is v H1
 | [], [], K, _, h => ⟨[], rfl, h⟩
 | [], _ :: _, _, h, _ => h.elim
 | _ :: _, [], _, h, _ => h.elim
 | r :: rs, q :: qs, K, hl, h => by
   have h : (Rs.rec (motive := fun _ => Rs) .no (fun v _ => b4r H f qs fun l => K (v :: l)) (fun _ _ => .no) (a3r H f q)).Is v H1 := h
   cases hq : a3r H f q with
   | no => rw [hq] at h; exact absurd h Rs.aw
   | th w H2 => exact absurd hq b9g
   | ok w H2 =>
     rw [hq] at h
     obtain ⟨e, h1, h2⟩ := b1e hf hl (.inl hq)
     obtain ⟨vs, h3, h4⟩ := a6h hf h2 h
     exact ⟨w :: vs, by simp [nG, h1, h3], h4⟩
theorem b4L {fn : Func} {H H1 : Heap} {f : Fr} {l : List Value} (hf : FAg f l) {qs : List LRes} (hl : tO P fn.results.toList qs) {v : Value} (h : (a6P qs f H).Is v H1) : H1 = H ∧ iC P fn l H = some v := by
 unfold a6P at h
 split at h
 ·rename_i q
  cases hr : fn.results.toList with
  | nil => rw [hr] at hl; exact hl.elim
  | cons r rs =>
    rw [hr] at hl
    obtain ⟨e, h1, h2⟩ := b1e hf hl h
    cases rs with
    | cons _ _ => exact h2.elim
    | nil => exact ⟨e, by simp [iC, hr, nG, h1]⟩
 ·rename_i hne
  obtain ⟨vs, h1, h2⟩ := a6h hf hl h
  obtain ⟨h3, h4⟩ := lB h2
  obtain ⟨rfl, rfl⟩ := Rs.aN h4
  refine ⟨rfl, ?_⟩
  have hlen : ∀ {rs : List ResultVar} {qs : List LRes}, tO P rs qs → rs.length = qs.length := by
   intro rs
   induction rs with
   | nil => intro qs h; cases qs with | nil => rfl | cons => exact h.elim
   | cons r rs ih => intro qs h; cases qs with | nil => exact h.elim | cons q qs => simp [ih h.2]
  have hvl : ∀ {rs : List ResultVar} {vs : List Value}, nG P l H1 rs = some vs → vs.length = rs.length := by
   intro rs
   induction rs with
   | nil => intro vs h; injection h with h; subst h; rfl
   | cons r rs ih =>
     intro vs h
     simp only [nG, cY, dh] at h
     obtain ⟨w, _, ws, h1, h2⟩ := h
     subst h2
     simp [ih h1]
  have hn1 : vs.length ≠ 1 := by
   rw [hvl h1, hlen hl]
   intro h1
   match qs, h1 with
   | [q], _ => exact hne q rfl
  unfold iC
  rw [h1, cW]
  rw [b0C] at h3
  have h3 : vs.all iY = true := by rw [← h3]; congr 1
  split
  ·exact absurd rfl hn1
  ·rw [if_pos h3]
structure FuncOk (P : Program) (f : FuncId) (g : LFunc) : Prop where
 ex : ∃ fn c, P.funcs[f]? = some fn ∧ fn.body = some c ∧ (fn.name == "runtime.NumGoroutine") = false ∧ g.ps = (List.range fn.ntmps).map kP ∧ Low P fn.ntmps c g.body ∧ tO P fn.results.toList g.res
def TOk (P : Program) (T : LT) : Prop := ∀ f g, a2c (kP f) T = some g → FuncOk P f g
def EOk (P : Program) (E : List LEnv) (H : Heap) : Prop := ∀ en ∈ E, en.L < H.length ∧ ∀ r, iQ H en.L = some (.loop r) →
 ∃ k, en.ps = (List.range k).map kP ∧ r.tmps.size = k ∧ en.pp = r.params.toList.map kP ∧ (∀ t ∈ r.params.toList, t < k) ∧ Low P k r.assign en.a ∧ Low P k r.body en.b
theorem EOk.ae {E : List LEnv} {H H' : Heap} (h : EOk P E H) (hk : LK H H') : EOk P E H' := fun en hen => by
 obtain ⟨h1, h2⟩ := h en hen
 refine ⟨dK h1 hk.1, fun r' hr' => ?_⟩
 obtain ⟨r, hr, ea, eb, ep, et⟩ := hk.2 en.L r' h1 hr'
 obtain ⟨k, a, b, c, d, e, f⟩ := h2 r hr
 exact ⟨k, a, by rw [et]; exact b, by rw [ep]; exact c, by rw [ep]; exact d, by rw [ea]; exact e, by rw [eb]; exact f⟩
def a3B (P : Program) (ih : pT) : Prop := ∀ (E : List LEnv) (C : LCode) (k : Nat) (c : Code) (f : Fr) (l : List Value) (H : Heap) (e : Ex) (f1 : Fr) (H1 : Heap), Low P k c C → FRel k f l → EOk P E H → ih E C f H = .ok e f1 H1 →
 ∃ l1, FRel k f1 l1 ∧ Sim P c l H e l1 H1 ∧ LK H H1 ∧ ∀ b, c = .loop b → ∃ n, Rounds P b n l H e l1 H1
theorem a0d {α : Type} {no : α} : ∀ {l : List Value} {i m : Nat} {f : Fr} {K : Fr → α}, (oU no l ((List.range' i m).map kP) f K = no) ∨ (l.length ≤ m ∧ ∃ f', oU no l ((List.range' i m).map kP) f K = K f' ∧ ∀ t, nT (kP t) f' = if i ≤ t ∧ t < i + l.length then get l (t - i) else nT (kP t) f)
 | [], i, m, f, K => .inr ⟨eL _, f, rfl, fun t => by rw [if_neg (by simp only [dA]; omega)]⟩
 | v :: l, i, 0, f, K => .inl rfl
 | v :: l, i, m + 1, f, K => by
   have e : oU no (v :: l) ((List.range' i (m + 1)).map kP) f K = pP v (kP i) f fun f => oU no l ((List.range' (i + 1) m).map kP) f K := by
    rw [gC]; rfl
   rw [e, sS]
   rcases a0d (l := l) (i := i + 1) (m := m) (f := b6N f i v) (K := K) with h | ⟨h1, f', h2, h3⟩
   ·exact .inl h
   ·refine .inr ⟨by simp; omega, f', h2, fun t => ?_⟩
    rw [h3 t, a3q]
    by_cases ht : t = i
    ·subst ht
     rw [if_neg (by omega), if_pos rfl, if_pos (by simp), Nat.sub_self]; rfl
    ·rw [if_neg ht]
     by_cases h4 : i + 1 ≤ t ∧ t < i + 1 + l.length
     ·rw [if_pos h4, if_pos (by simp; omega)]
      rw [show t - i = (t - (i + 1)) + 1 by omega]; rfl
     ·rw [if_neg h4, if_neg (by simp; omega)]
theorem vJ {α : Type} {no : α} {k : Nat} : ∀ {args : List Value} {ps : List Tmp} {f : Fr} {l : List Value} {K : Fr → α}, FRel k f l → (∀ t ∈ ps, t < k) → args.length = ps.length →
 ∃ f', oU no args (ps.map kP) f K = K f' ∧ FRel k f' ((ps.zip args).foldl (fun t (p, v) => t.set p v) l)
 | [], [], f, l, K, hf, _, _ => ⟨f, rfl, hf⟩
 | v :: args, p :: ps, f, l, K, hf, hp, he => by
   have e : oU no (v :: args) ((p :: ps).map kP) f K = pP v (kP p) f fun f => oU no args (ps.map kP) f K := rfl
   rw [e, sS]
   exact vJ (hf.set (hp p (by simp)) v) (fun t ht => hp t (by simp [ht])) (by simpa using he)
 | [], _ :: _, _, _, _, _, _, he => by simp at he
 | _ :: _, [], _, _, _, _, _, he => by simp at he
theorem zZ (l : List Value) (n t : Nat) : get (l ++ List.replicate n undef) t = get l t := by
 rw [oE, oE]
 simp only [dc]
 by_cases h : t < l.length
 ·rw [eo h]
 ·rw [ez (by omega), dY (l := l) (by omega), gN]
  split <;> rfl
theorem zS {T : LT} (hT : TOk P T) {ih : pT} (hih : a3B P ih) {E : List LEnv} {p : Pth} {f : FuncId} {args : List Value} {H H1 : Heap} {v : Value} (hE : EOk P E H) (hp : p = kP f) (h : (mN T ih E p args H).Is v H1) :
 FnS P f args H (fun v' H' => v' = v ∧ H' = H1) ∧ LK H H1 := by
 unfold mN at h
 split at h
 case h_2 => exact absurd h Rs.aw
 rename_i g hg
 subst hp
 obtain ⟨fn, c, hfn, hb, hn, hps, hlow, hres⟩ := (hT f g hg).ex
 rw [hps] at h
 rw [fJ] at h
 rcases a0d (no := Rs.no) (l := args) (i := 0) (m := fn.ntmps) (f := .e) (K := fun f => c0m g.res (ih E g.body f H)) with h1 | ⟨h1, f0, h2, h3⟩
 ·rw [h1] at h; exact absurd h Rs.aw
 ·rw [h2] at h
  have hf0 : FRel fn.ntmps f0 (args ++ List.replicate (fn.ntmps - args.length) undef) := by
   refine ⟨by simp; omega, fun t => ?_⟩
   rw [h3 t, zZ]
   by_cases ht : t < args.length
   ·rw [if_pos (by omega)]; rfl
   ·rw [if_neg (by omega), uH, oE, dc, dY (by omega)]; try rfl
  cases hr : ih E g.body f0 H with
  | no => rw [hr] at h; exact absurd h Rs.aw
  | ok e f1 H2 =>
    rw [hr] at h
    obtain ⟨l1, hf1, hs, hk, _⟩ := hih E g.body fn.ntmps c f0 _ H e f1 H2 hlow hf0 hE hr
    have key : (e = .normal ∨ e = .ret) → (a6P g.res f1 H2).Is v H1 → FnS P f args H (fun v' H' => v' = v ∧ H' = H1) ∧ LK H H1 := by
     intro he hv
     obtain ⟨rfl, hv⟩ := b4L hf1.2 hres hv
     exact ⟨⟨fn, c, e, l1, H1, v, hfn, hb, hn, hs, he, hv, rfl, rfl⟩, hk⟩
    cases e with
    | normal => exact key (.inl rfl) h
    | ret => exact key (.inr rfl) h
    | exit id => exact absurd h Rs.aw
theorem b3J {T : LT} (hT : TOk P T) {ih : pT} (hih : a3B P ih) {E : List LEnv} {p : Pth} {f : FuncId} {args : List Value} {H H1 : Heap} {v : Value} (hE : EOk P E H) (hp : p = kP f) (h : (b4p P T ih E p f args H).Is v H1) :
 (FnS P f args H (fun v' H' => v' = v ∧ H' = H1) ∨ pR P f args H = some (v, H1)) ∧ LK H H1 := by
 unfold b4p at h
 cases hg : a2c p T with
 | some g =>
   rw [hg] at h
   obtain ⟨a, b⟩ := zS (H1 := H1) (v := v) hT hih hE hp (by unfold mN; rw [hg]; exact h)
   exact ⟨.inl a, b⟩
 | none =>
   rw [hg] at h
   have h : (c2d P f args H).Is v H1 := h
   unfold c2d at h
   split at h
   ·rename_i v2 H2 hx
    obtain ⟨rfl, rfl⟩ := Rs.aS h
    exact ⟨.inr hx, a4V hx⟩
   ·exact absurd h Rs.aw
theorem a7L {E : List LEnv} {L : Nat} {en : LEnv} (h : b6A E L = some en) : en ∈ E ∧ en.L = L := by
 induction E with
 | nil => cases h
 | cons e E ih =>
   have h : nQ (Nat.beq e.L L) (b6A E L) (some e) = some en := h
   rw [kK] at h
   split at h
   ·rename_i hh
    injection h with h
    subst h
    exact ⟨by simp, dU hh⟩
   ·obtain ⟨h1, h2⟩ := ih h
    exact ⟨eM _ h1, h2⟩
theorem a6d (e : Ex) : b9H e = rL e := by cases e <;> rfl
theorem b2q {ih : pT} (hih : a3B P ih) {E : List LEnv} {L : Nat} {args : List Value} {H H1 : Heap} {v : Value} (hE : EOk P E H) (h : (b0e ih E L args H).Is v H1) : xM P L args H v H1 ∧ LK H H1 := by
 unfold b0e at h
 split at h
 case h_2 => exact absurd h Rs.aw
 rename_i en hen
 obtain ⟨hmem, rfl⟩ := a7L hen
 split at h
 case h_2 => exact absurd h Rs.aw
 rename_i p fn tmps ps a b d hg
 obtain ⟨hlen, h⟩ := lB h
 rw [xR] at hlen
 have hlen : ps.size = args.length := by simpa only [decide_eq_true_eq] using hlen
 obtain ⟨k, hps, hsz, hpp, hpk, hla, hlb⟩ := (hE en hmem).2 _ hg
 have hsz : tmps.length = k := by simpa using hsz
 rw [hps, fJ] at h
 rcases a0d (no := Rs.no) (l := tmps) (i := 0) (m := k) (f := .e) (K := fun f => oU .no args en.pp f fun f => sM ih E en (ih E en.a f H)) with h1 | ⟨h1, f0, h2, h3⟩
 ·rw [h1] at h; exact absurd h Rs.aw
 rw [h2] at h
 have hf0 : FRel k f0 tmps := by
  refine ⟨hsz, fun t => ?_⟩
  rw [h3 t]
  by_cases ht : t < tmps.length
  ·rw [if_pos (by omega)]; rfl
  ·rw [if_neg (by omega), uH, oE, dc, dY (by omega)]; try rfl
 rw [hpp] at h
 obtain ⟨f2, h4, hf2⟩ := vJ (no := Rs.no) (args := args) (ps := ps.toList) (K := fun f => sM ih E en (ih E en.a f H)) hf0 hpk (by simpa using hlen.symm)
 have h : (oU Rs.no args (List.map kP ps.toList) f0 fun f => sM ih E en (ih E en.a f H)).Is v H1 := h
 rw [h4] at h
 cases hr1 : ih E en.a f2 H with
 | no => rw [hr1] at h; exact absurd h Rs.aw
 | ok e f3 H2 =>
   rw [hr1] at h
   obtain ⟨l3, hf3, hs1, hk1, _⟩ := hih E en.a k a f2 _ H e f3 H2 hla hf2 hE hr1
   cases e with
   | ret => exact absurd h Rs.aw
   | exit id => exact absurd h Rs.aw
   | normal =>
     have h : (a0f ih E en f3 H2).Is v H1 := h
     unfold a0f at h
     split at h
     case h_2 => exact absurd h Rs.aw
     rename_i p2 fn2 tmps2 ps2 a2 b2 d2 hg2
     rw [lU] at h
     obtain ⟨r0, hr0, ea, eb, ep, et⟩ := hk1.2 en.L _ (hE en hmem).1 hg2
     rw [hg] at hr0
     injection hr0 with hr0
     injection hr0 with hr0
     subst hr0
     have ea' : a2 = a := ea
     have eb' : b2 = b := eb
     have ep' : ps2 = ps := ep
     have et' : tmps2 = ⟨tmps⟩ := et
     clear ea eb ep et
     subst ea' eb' ep' et'
     have hk2 : LK H2 (hset H2 en.L (.loop ⟨.busy, p2, fn2, ⟨tmps⟩, ps2, a2, b2, d2⟩)) := .loop hg2 ⟨rfl, rfl, rfl, rfl⟩
     cases hr2 : ih E en.b f3 (hset H2 en.L (.loop ⟨.busy, p2, fn2, ⟨tmps⟩, ps2, a2, b2, d2⟩)) with
     | no => rw [hr2] at h; exact absurd h Rs.aw
     | ok e f4 H3 =>
       rw [hr2] at h
       obtain ⟨l4, _, hs2, hk3, _⟩ := hih E en.b k b2 f3 _ _ e f4 H3 hlb hf3 (hE.ae (hk1.trans hk2)) hr2
       have h : (a1Y en.L e H3).Is v H1 := h
       unfold a1Y at h
       split at h
       case h_2 => exact absurd h Rs.aw
       rename_i st3 p3 fn3 tmps3 ps3 a3 b3 d3 hg3
       have fin : ∀ r', H1 = hset H3 en.L (.loop r') → (r' = { (⟨st3, p3, fn3, tmps3, ps3, a3, b3, d3⟩ : Loop) with state := if (rL e).isNone then .ready else .done, pending := rL e }) → v = .bool (rL e).isNone → xM P en.L args H v H1 ∧ LK H H1 := by
        intro r' hH hr' hv
        refine ⟨?_, hk1.trans (hk2.trans (hk3.trans (by rw [hH]; exact .loop hg3 (by rw [hr']; exact ⟨rfl, rfl, rfl, rfl⟩))))⟩
        have hW := a0q (P := P) (args := args) (K := fun v' H' => v' = v ∧ H' = H1) hg hlen rfl
         ⟨.normal, l3, H2, hs1, rfl, _, hg2, rfl, e, l4, H3, hs2, _, hg3, hv.symm, by rw [hH, hr']⟩
        obtain ⟨v', H', h1, rfl, rfl⟩ := hW
        exact h1
       split at h
       ·rename_i hj
        obtain ⟨rfl, rfl⟩ := Rs.aS h
        rw [a6d] at hj
        exact fin _ rfl (by rw [hj]; rfl) (by rw [hj]; rfl)
       ·rename_i c hj
        obtain ⟨rfl, rfl⟩ := Rs.aS h
        rw [a6d] at hj
        exact fin _ rfl (by rw [hj]; rfl) (by rw [hj]; rfl)
theorem a3d {T : LT} (hT : TOk P T) {ih : pT} (hih : a3B P ih) {E : List LEnv} {H0 : Heap} (hE : EOk P E H0) : CallsOk P (a0a P T ih E) H0 where
 fn p f args H v H1 hk h hp := b3J hT hih (hE.ae hk) hp h
 rd L args H v H1 hk h := b2q hih (hE.ae hk) h
theorem c0B {α : Type} {f : Fr} {l : List Value} (hf : FAg f l) (i m : Nat) (K : List Value → α) : frL f ((List.range' i m).map kP) K = K ((List.range' i m).map (get l)) := by
 induction m generalizing i K with
 | zero => rfl
 | succ m ih =>
   have e : frL f ((List.range' i (m + 1)).map kP) K = oB (nT (kP i) f) fun v => frL f ((List.range' (i + 1) m).map kP) fun l => K (v :: l) := by
    rw [gC]; rfl
   rw [e, mS, ih, hf i, gC]; rfl
theorem b7R {α : Type} {k : Nat} {f : Fr} {l : List Value} (hf : FRel k f l) (K : List Value → α) : frL f ((List.range k).map kP) K = K l := by
 rw [fJ, c0B hf.2, ← fJ]
 congr 1
 apply gw
 intro i
 rw [eH]
 by_cases hi : i < k
 ·rw [gG hi, dM, oE, dc]
  have : i < l.length := by rw [hf.1]; exact hi
  simp [dq this]
 ·rw [dY (by simp; omega), dY (by rw [hf.1]; omega)]; rfl
theorem b3p {T : LT} (hT : TOk P T) {ih : pT} (hih : a3B P ih) {E : List LEnv} {k : Nat} {g : Operand} {ps : Array Tmp} {assign body : Code} {A B : LCode} (hg : iO g = true) (hps : ∀ t ∈ ps.toList, t < k) (ha : Low P k assign A) (hb : Low P k body B)
 {x1 x2 : Fr → Heap → Rc} {f : Fr} {l : List Value} {H : Heap} {e : Ex} {f1 : Fr} {H1 : Heap} (hf : FRel k f l) (hE : EOk P E H) (h : a8K T ih E (iV g) ((List.range k).map kP) (ps.toList.map kP) ps assign body A B x1 x2 f H = .ok e f1 H1) :
 f1 = f ∧ Sim P (.rangeFunc g ps assign body) l H e l H1 ∧ LK H H1 := by
 unfold a8K at h
 rw [jN hf.2] at h
 split at h
 case h_2 => cases h
 rename_i j xa xb hgv
 rw [jV, b7R hf, lU, jV] at h
 unfold b0S at h
 rw [lI] at h
 generalize hH0 : H.cons (.loop ⟨.ready, none, 0, ⟨l⟩, ps, assign, body, 0⟩) = H0 at h
 have hl0 : (⟨.ready, none, 0, ⟨l⟩, ps, assign, body, 0⟩ : Loop) = b0r l ps assign body := rfl
 have hE0 : EOk P (⟨H.length, (List.range k).map kP, ps.toList.map kP, A, B⟩ :: E) H0 := by
  intro en hen
  rcases ew.1 hen with rfl | hen
  ·refine ⟨by rw [← hH0, length_cons]; exact Nat.lt_succ_self _, fun r hr => ?_⟩
   rw [← hH0, iM] at hr
   injection hr with hr
   injection hr with hr
   subst hr
   exact ⟨k, rfl, by simpa using hf.1, rfl, hps, ha, hb⟩
  ·exact (hE.ae (by rw [← hH0]; exact .cons _ _)) en hen
 have key : ∀ v H2, (mN T ih (⟨H.length, (List.range k).map kP, ps.toList.map kP, A, B⟩ :: E) (kP j) (a4Q xa (.func (.yield H.length) #[] #[] :: xb)) H0).Is v H2 → tN H.length f H2 = .ok e f1 H1 → f1 = f ∧ Sim P (.rangeFunc g ps assign body) l H e l H1 ∧ LK H H1 := by
  intro v H2 hc hr
  obtain ⟨hfn, hk⟩ := zS hT hih hE0 rfl hc
  have hargs : a4Q xa (.func (.yield H.length) #[] #[] :: xb) = xa ++ [.func (.yield H.length) #[] #[]] ++ xb := by rw [yJ]; simp
  rw [hargs, ← hH0, hl0] at hfn
  have fin : ∀ (r : Loop) (H3 : Heap), iQ H2 H.length = some (.loop r) → r.state ≠ .busy → H3 = hset H2 H.length (.loop { r with state := .exhausted }) → (r.pending = none → e = .normal) → (∀ c, r.pending = some c → (c = .ret ∧ e = .ret) ∨ ∃ id, c = .exit id ∧ e = .exit id) → f1 = f → H1 = H3 →
   f1 = f ∧ Sim P (.rangeFunc g ps assign body) l H e l H1 ∧ LK H H1 := by
   intro r H3 hrl hnb hH3 hp0 hp1 he1 he2
   have hw : Wp P (.rangeFunc g ps assign body) l H (fun e' l' H' => e' = e ∧ l' = l ∧ H' = H3) := by
    refine Wp.range (first := xa) (captured := xb) hg (by rw [hgv]) (hfn.mono ?_)
    rintro v' H' ⟨rfl, rfl⟩
    refine ⟨r, hrl, hnb, fun hp => ⟨(hp0 hp).symm, rfl, hH3.symm⟩, fun c hc => ?_⟩
    rcases hp1 c hc with ⟨rfl, he⟩ | ⟨id, rfl, he⟩
    ·exact Wp.ret ⟨he.symm, rfl, hH3.symm⟩
    ·exact Wp.exit ⟨he.symm, rfl, hH3.symm⟩
   obtain ⟨e', l', H', hs, rfl, rfl, rfl⟩ := hw
   refine ⟨he1, by rw [he2]; exact hs, ?_⟩
   rw [he2, hH3]
   have h1 : LK H H0 := by rw [← hH0]; exact .cons _ _
   exact h1.trans (hk.trans (.loop hrl ⟨rfl, rfl, rfl, rfl⟩))
  unfold tN at hr
  split at hr
  ·rename_i hg2
   rw [lU] at hr
   injection hr with h1 h2 h3
   exact fin _ _ hg2 (by simp) rfl (fun _ => h1.symm) (fun c hc => by cases hc) h2.symm h3.symm
  ·rename_i hg2
   rw [lU] at hr
   injection hr with h1 h2 h3
   exact fin _ _ hg2 (by simp) rfl (fun _ => h1.symm) (fun c hc => by cases hc) h2.symm h3.symm
  ·rename_i hg2
   rw [lU] at hr
   injection hr with h1 h2 h3
   exact fin _ _ hg2 (by simp) rfl (fun hc => by cases hc) (fun c hc => by injection hc with hc; subst hc; exact .inl ⟨rfl, h1.symm⟩) h2.symm h3.symm
  ·rename_i hg2
   rw [lU] at hr
   injection hr with h1 h2 h3
   exact fin _ _ hg2 (by simp) rfl (fun hc => by cases hc) (fun c hc => by injection hc with hc; subst hc; exact .inr ⟨_, rfl, h1.symm⟩) h2.symm h3.symm
  ·cases hr
 cases hc : mN T ih (⟨H.length, (List.range k).map kP, ps.toList.map kP, A, B⟩ :: E) (kP j) (a4Q xa (.func (.yield H.length) #[] #[] :: xb)) H0 with
 | no => rw [hc] at h; cases h
 | ok v H2 => rw [hc] at h; exact key v H2 (.inl hc) h
 | th v H2 =>
   rw [hc] at h
   have h : nJ H2 (fun H => tN _ f H) = .ok e f1 H1 := h
   rw [lU] at h
   exact key v H2 (.inr hc) h
theorem c1Z (kE : P.follows .mixedOrders = true) {T : LT} (hT : TOk P T) : ∀ n, a3B P (exF P T n) := by
 intro n
 induction n with
 | zero => intro E C k c f l H e f1 H1 _ _ _ h; cases h
 | succ n ih =>
   intro E C k c f l H e f1 H1 hlow hf hE h
   have h : b0n P T (exF P T n) E C f H = .ok e f1 H1 := h
   have noloop : ∀ {c : Code}, (∀ b, c ≠ .loop b) → ∀ {l1 : List Value}, ∀ b, c = .loop b → ∃ n, Rounds P b n l H e l1 H1 := fun hne _ b hb => absurd hb (hne b)
   cases hlow with
   | bad => cases h
   | skip =>
     injection h with h1 h2 h3; subst h1 h2 h3
     exact ⟨l, hf, .skip l H, .refl H, noloop (by intro b h; cases h)⟩
   | label t =>
     injection h with h1 h2 h3; subst h1 h2 h3
     exact ⟨l, hf, .label t l H, .refl H, noloop (by intro b h; cases h)⟩
   | exit id =>
     injection h with h1 h2 h3; subst h1 h2 h3
     exact ⟨l, hf, .exit id l H, .refl H, noloop (by intro b h; cases h)⟩
   | ret =>
     injection h with h1 h2 h3; subst h1 h2 h3
     exact ⟨l, hf, .ret l H, .refl H, noloop (by intro b h; cases h)⟩
   | @reg id ops d lo hlo hd =>
     have h : c3v (xC P (a0a P T (exF P T n) E) lo f H) = .ok e f1 H1 := h
     cases hr : xC P (a0a P T (exF P T n) E) lo f H with
     | no => rw [hr] at h; cases h
     | ok f2 H2 =>
       rw [hr] at h
       injection h with h1 h2 h3; subst h1 h2 h3
       obtain ⟨l1, hf1, hops, hk⟩ := b9k (a3d hT ih hE) hlo (i := 0) rfl hf (.refl H) hr
       have hops : OpsR P ops (List.range ops.size) l H l1 H2 := by rw [fJ]; simpa using hops
       refine ⟨l1, hf1, ?_, hk, noloop (by intro b h; cases h)⟩
       cases d with
       | false => exact .region hops
       | true => exact .bZ kE (hd rfl) hops
   | drw hlo ht hl =>
     obtain ⟨l1, rfl, hf1, hs, hk⟩ := b8a kE (a3d hT ih hE) hlo ht hl hf h
     exact ⟨l1, hf1, hs, hk, noloop (by intro b h; cases h)⟩
   | @seq a b A B ha hb =>
     have h : b8K (exF P T n) E B (exF P T n E A f H) = .ok e f1 H1 := h
     cases hr : exF P T n E A f H with
     | no => rw [hr] at h; cases h
     | ok e2 f2 H2 =>
       rw [hr] at h
       obtain ⟨l2, hf2, hs, hk, _⟩ := ih E A k a f l H e2 f2 H2 ha hf hE hr
       cases e2 with
       | normal =>
         obtain ⟨l1, hf1, hs1, hk1, _⟩ := ih E B k b f2 l2 H2 e f1 H1 hb hf2 (hE.ae hk) h
         exact ⟨l1, hf1, .seq hs hs1, hk.trans hk1, noloop (by intro b h; cases h)⟩
       | ret =>
         injection h with h1 h2 h3; subst h1 h2 h3
         exact ⟨l2, hf2, .seq' hs (by intro h; cases h), hk, noloop (by intro b h; cases h)⟩
       | exit id =>
         injection h with h1 h2 h3; subst h1 h2 h3
         exact ⟨l2, hf2, .seq' hs (by intro h; cases h), hk, noloop (by intro b h; cases h)⟩
   | @cond c x y X Y hc hx hy =>
     have h : b6h (exF P T n) E (iV c) X Y (b0n P T (exF P T n) E X) (b0n P T (exF P T n) E Y) f H = .ok e f1 H1 := h
     unfold b6h at h
     rw [jN hf.2] at h
     split at h
     ·rename_i t ht
      cases t with
      | true =>
        obtain ⟨l1, hf1, hs, hk, _⟩ := ih E X k x f l H e f1 H1 hx hf hE h
        exact ⟨l1, hf1, .cond ht hc hs, hk, noloop (by intro b h; cases h)⟩
      | false =>
        obtain ⟨l1, hf1, hs, hk, _⟩ := ih E Y k y f l H e f1 H1 hy hf hE h
        exact ⟨l1, hf1, .cond ht hc hs, hk, noloop (by intro b h; cases h)⟩
     ·cases h
   | @block id b B hb =>
     have h : c3c id (exF P T n E B f H) = .ok e f1 H1 := h
     cases hr : exF P T n E B f H with
     | no => rw [hr] at h; cases h
     | ok e2 f2 H2 =>
       rw [hr] at h
       obtain ⟨l2, hf2, hs, hk, _⟩ := ih E B k b f l H e2 f2 H2 hb hf hE hr
       have hs' : Sim P (.block id b) l H (e2.out id) l2 H2 := .block hs
       cases e2 with
       | normal => injection h with h1 h2 h3; subst h1 h2 h3; exact ⟨l2, hf2, hs', hk, noloop (by intro b h; cases h)⟩
       | ret => injection h with h1 h2 h3; subst h1 h2 h3; exact ⟨l2, hf2, hs', hk, noloop (by intro b h; cases h)⟩
       | exit i =>
         have h : Rc.ok (Bool.rec (motive := fun _ => Ex) (.exit i) .normal (Nat.beq i id)) f2 H2 = .ok e f1 H1 := h
         injection h with h1 h2 h3; subst h2 h3
         have : (Ex.exit i).out id = e := by
          rw [← h1]
          by_cases hi : i = id
          ·subst hi; simp [Ex.out]
          ·have : Nat.beq i id = false := fT.2 fun e => hi (dU e)
           simp [Ex.out, hi, this]
         rw [this] at hs'
         exact ⟨l2, hf2, hs', hk, noloop (by intro b h; cases h)⟩
   | @loop b B hb =>
     have h : b8K (exF P T n) E (.loop B) (exF P T n E B f H) = .ok e f1 H1 := h
     cases hr : exF P T n E B f H with
     | no => rw [hr] at h; cases h
     | ok e2 f2 H2 =>
       rw [hr] at h
       obtain ⟨l2, hf2, hs, hk, _⟩ := ih E B k b f l H e2 f2 H2 hb hf hE hr
       have last : e2 ≠ .normal → e2 = e → f2 = f1 → H2 = H1 → ∃ l1, FRel k f1 l1 ∧ Sim P (.loop b) l H e l1 H1 ∧ LK H H1 ∧ ∀ b', Code.loop b = .loop b' → ∃ n, Rounds P b' n l H e l1 H1 := by
        intro hne h1 h2 h3
        subst h1 h2 h3
        have hr : Rounds P b 1 l H e2 l2 H2 := .last hs hne
        exact ⟨l2, hf2, .loop hr, hk, fun b' hb' => by injection hb' with hb'; subst hb'; exact ⟨1, hr⟩⟩
       cases e2 with
       | normal =>
         obtain ⟨l1, hf1, hs1, hk1, hro⟩ := ih E (.loop B) k (.loop b) f2 l2 H2 e f1 H1 (.loop hb) hf2 (hE.ae hk) h
         obtain ⟨m, hm⟩ := hro b rfl
         have hr : Rounds P b (m + 1) l H e l1 H1 := .more hs hm
         exact ⟨l1, hf1, .loop hr, hk.trans hk1, fun b' hb' => by injection hb' with hb'; subst hb'; exact ⟨_, hr⟩⟩
       | ret => injection h with h1 h2 h3; exact last (by intro h; cases h) h1 h2 h3
       | exit id => injection h with h1 h2 h3; exact last (by intro h; cases h) h1 h2 h3
   | range hg hps ha hb =>
     obtain ⟨rfl, hs, hk⟩ := b3p (x1 := fun _ _ => .no) (x2 := fun _ _ => .no) hT ih hg hps ha hb hf hE h
     exact ⟨l, hf, hs, hk, noloop (by intro b h; cases h)⟩
theorem yF {α : Type} (v : LFunc) (p : Pth) (f : LT) (K : LT → α) : rU v p f K = K (rU v p f fun f => f) := by
 induction p generalizing f α with
 | z => cases f <;> rfl
 | l p ih =>
   cases f with
   | e =>
     show rU v p .e (fun l => K (.n none l .e)) = K (rU v p .e fun l => .n none l .e)
     rw [ih, ih (K := fun l => LT.n none l .e)]
   | n w l r =>
     show rU v p l (fun l => K (.n w l r)) = K (rU v p l fun l => .n w l r)
     rw [ih, ih (K := fun l => LT.n w l r)]
 | r p ih =>
   cases f with
   | e =>
     show rU v p .e (fun l => K (.n none .e l)) = K (rU v p .e fun l => .n none .e l)
     rw [ih, ih (K := fun l => LT.n none .e l)]
   | n w l r =>
     show rU v p r (fun r => K (.n w l r)) = K (rU v p r fun r => .n w l r)
     rw [ih, ih (K := fun r => LT.n w l r)]
theorem wM (p : Pth) : a2c p .e = none := by cases p <;> rfl
theorem b2z (v : LFunc) (p q : Pth) (f : LT) {g : LFunc} (h : a2c q (rU v p f fun f => f) = some g) : (q = p ∧ g = v) ∨ a2c q f = some g := by
 induction p generalizing f q with
 | z =>
   cases q with
   | z => left; refine ⟨rfl, ?_⟩; cases f <;> (injection h with h; exact h.symm)
   | l q => right; cases f with
     | e => have h : a2c q .e = some g := h
            rw [wM] at h; cases h
     | n => exact h
   | r q => right; cases f with
     | e => have h : a2c q .e = some g := h
            rw [wM] at h; cases h
     | n => exact h
 | l p ih =>
   have h1 : ∀ f, rU v (.l p) f (fun f => f) = match f with | .e => .n none (rU v p .e fun f => f) .e | .n w l r => .n w (rU v p l fun f => f) r := fun f => by
    cases f with
    | e => exact yF v p .e fun l => LT.n none l .e
    | n w l r => exact yF v p l fun l => LT.n w l r
   rw [h1] at h
   cases q with
   | z => right; cases f with
     | e => exact h
     | n => exact h
   | r q => right; cases f with
     | e => have h : a2c q .e = some g := h
            rw [wM] at h; cases h
     | n => exact h
   | l q =>
     cases f with
     | e =>
       rcases ih q .e h with ⟨rfl, hq⟩ | h
       ·exact .inl ⟨rfl, hq⟩
       ·rw [wM] at h; cases h
     | n w l r =>
       rcases ih q l h with ⟨rfl, hq⟩ | h
       ·exact .inl ⟨rfl, hq⟩
       ·exact .inr h
 | r p ih =>
   have h1 : ∀ f, rU v (.r p) f (fun f => f) = match f with | .e => .n none .e (rU v p .e fun f => f) | .n w l r => .n w l (rU v p r fun f => f) := fun f => by
    cases f with
    | e => exact yF v p .e fun l => LT.n none .e l
    | n w l r => exact yF v p r fun r => LT.n w l r
   rw [h1] at h
   cases q with
   | z => right; cases f with
     | e => exact h
     | n => exact h
   | l q => right; cases f with
     | e => have h : a2c q .e = some g := h
            rw [wM] at h; cases h
     | n => exact h
   | r q =>
     cases f with
     | e =>
       rcases ih q .e h with ⟨rfl, hq⟩ | h
       ·exact .inl ⟨rfl, hq⟩
       ·rw [wM] at h; cases h
     | n w l r =>
       rcases ih q r h with ⟨rfl, hq⟩ | h
       ·exact .inl ⟨rfl, hq⟩
       ·exact .inr h
theorem b1t {α : Type} (f : FuncId) (no : α) (K : LFunc → α) : (∃ g, FuncOk P f g ∧ a2i P f no K = K g) ∨ a2i P f no K = no := by
 unfold a2i
 split
 ·rename_i fn hfn
  split
  ·rename_i c hb
   rw [kK]
   split
   ·exact .inr rfl
   ·rename_i hn
    rcases b4V (P := P) fn.results.toList (fun res => b3m fn.ntmps fun ps => nB P fn.ntmps c fun b => K ⟨ps, b, res⟩) no with ⟨res, hres, h1⟩ | h1
    ·rw [h1, b0J]
     obtain ⟨C, hC, h2⟩ := b1o (P := P) fn.ntmps c (fun b => K ⟨(List.range fn.ntmps).map kP, b, res⟩)
     exact .inl ⟨⟨_, C, res⟩, ⟨fn, c, hfn, hb, by simpa using hn, rfl, hC, hres⟩, h2⟩
    ·exact .inr h1
  ·exact .inr rfl
 ·exact .inr rfl
theorem b6Q {α : Type} (fs : List FuncId) (T : LT) (hT : TOk P T) (K : LT → α) : ∃ T', TOk P T' ∧ sX P fs T K = K T' := by
 induction fs generalizing T with
 | nil => exact ⟨T, hT, rfl⟩
 | cons f fs ih =>
   have e : sX P (f :: fs) T K = a2i P f (sX P fs T K) fun g => lK (kP f) fun p => rU g p T fun T => sX P fs T K := rfl
   rw [e]
   rcases b1t (P := P) f (sX P fs T K) (fun g => lK (kP f) fun p => rU g p T fun T => sX P fs T K) with ⟨g, hg, h⟩ | h
   ·rw [h, lI, yF]
    refine ih _ fun f' g' h' => ?_
    rcases b2z g (kP f) (kP f') T h' with ⟨he, rfl⟩ | h'
    ·rw [b0B he]; exact hg
    ·exact hT f' g' h'
   ·rw [h]; exact ih T hT
end Go.Ds
namespace Go.Ds
open Go.Proofs Go.Proofs.Tryz
def t64 : List Nat := [0, 1, 56, 2, 57, 49, 28, 3, 61, 58, 42, 50, 38, 29, 17, 4, 62, 47, 59, 36, 45, 43, 51, 22, 53, 39, 33, 30, 24, 18, 12, 5, 63, 55, 48, 27, 60, 41, 37, 16, 46, 35, 44, 21, 52, 32, 23, 11, 54, 26, 40, 15, 34, 20, 31, 10, 25, 14, 19, 9, 13, 8, 7, 6]
def t32 : List Nat := [0, 1, 28, 2, 29, 14, 24, 3, 30, 22, 20, 15, 25, 17, 4, 8, 31, 27, 13, 23, 21, 19, 16, 7, 26, 12, 18, 6, 11, 5, 10, 9]
noncomputable def gH : Heap := ((((Heap.nil.cons (.cells (t64.map fun (n : Nat) => Value.int .u8 (.ofNat n)) 5 false 0 1)).cons (.cells [] 3 false 0 1)).cons (.cells ([1, 10, 100, 1000, 10000, 100000, 1000000, 10000000, 100000000, 1000000000, 10000000000, 100000000000, 1000000000000, 10000000000000, 100000000000000, 1000000000000000, 10000000000000000, 100000000000000000, 1000000000000000000, 10000000000000000000].map fun (n : Nat) => Value.int .u64 (.ofNat n)) 38 false 0 1)).cons (.cells (t32.map fun (n : Nat) => Value.int .u8 (.ofNat n)) 5 false 0 1))
theorem c4d : prog.follows .mixedOrders = true := by kernel_rfl
def b1P : Nat → Nat → List UInt8 → List UInt8
 | 0, _, acc => acc
 | f + 1, n, acc => if n < 10 then (48 + n).toUInt8 :: acc else b1P f (n / 10) ((48 + n % 10).toUInt8 :: acc)
def pB (n : Nat) : ByteArray := ⟨(b1P 100 n []).toArray⟩
theorem a5d {b : ByteArray} {n : Nat} (h : b.data.toList = b1P 100 n []) : b = pB n := by
 cases b with | mk d => cases d with | mk l => simp only at h; subst h; rfl
def b0G (r : Rs) (n : Nat) : Bool := match r with
 | .ok (.string b) _ => decide (b.data.toList = b1P 100 n [])
 | .th (.string b) _ => decide (b.data.toList = b1P 100 n [])
 | _ => false
def b8C (v : Value) (n : Nat) : Bool := match v with
 | .tuple vs => match vs.toList with
   | [.string b, .int .i64 m] => decide (m = 0) && decide (b.data.toList = b1P 100 n [])
   | _ => false
 | _ => false
def b5n (r : Rs) (n : Nat) : Bool := match r with
 | .ok v _ => b8C v n
 | .th v _ => b8C v n
 | _ => false
def b6z (r : Rs) (n : Int) : Bool := match r with
 | .ok (.int .i64 m) _ => decide (m = n)
 | .th (.int .i64 m) _ => decide (m = n)
 | _ => false
noncomputable def c0e (ps : List Nat) : Bool := sX prog [115, 99, 155, 132, 165, 181, 185, 186, 187, 188, 191, 192, 193, 194, 196] .e fun T => ps.all fun x => b0G (mN T (exF prog T 4000) [] (kP 99) [.int .i64 x] gH) x
def fsP : List Nat := [115, 179, 161, 163, 32, 98, 155, 178, 190, 54, 55, 128, 129, 130, 131, 135, 189, 195, 158, 159, 160, 162, 164, 166, 167, 176, 177, 180, 182, 185, 186, 187, 188, 191, 192, 193, 194, 196]
noncomputable def tQ (ps : List Nat) : Bool := sX prog fsP .e fun T => ps.all fun x => b5n (mN T (exF prog T 4000) [] (kP 98) [.string (pB x), .int .i64 24] gH) (x ^ 24)
def fsM : List Nat := [115, 179, 161, 163, 32, 99, 100, 155, 132, 178, 190, 54, 55, 128, 129, 130, 131, 133, 135, 165, 189, 195, 158, 159, 160, 162, 164, 166, 167, 181, 176, 177, 180, 182, 185, 186, 187, 188, 191, 192, 193, 194, 196]
noncomputable def lX (ps : List (Nat × Nat)) : Bool := sX prog fsM .e fun T => ps.all fun x => b0G (mN T (exF prog T 4000) [] (kP 100) [.string (pB x.1), .string (pB x.2)] gH) (x.1 * x.2)
def rW (t : Nat × Nat) : List (Nat × Nat) := (t.1 ^ 24, 2) :: (List.range t.2).map fun k => (2 * t.1 ^ 24 * 4 ^ k, 4)
def a7c (t : Nat × Nat × Nat) : List (Nat × Nat) := (List.range (t.2.2 + 1)).map fun k => (t.1 ^ 24, 2 * t.2.1 ^ 24 * 4 ^ k)
def b5z (a b : Nat) : Int := if a < b then -1 else if b < a then 1 else 0
noncomputable def tY (ps : List (Nat × Nat)) : Bool := sX prog [101, 134, 135, 136, 166, 167, 168, 182, 183] .e fun T => ps.all fun x => b6z (mN T (exF prog T 4000) [] (kP 101) [.string (pB x.1), .string (pB x.2)] gH) (b5z x.1 x.2)
end Go.Ds
namespace Go.Ds
open Go.RowKit Go.Proofs
section
variable {P : Program} {ρ : Rho} {H : Heap} {w : World}
theorem a3T {name : String} {g : Nat} {k : IntKind} {zs : List Int} (hg : P.globalNamed name = some g) (ht : Lib.TabIs P w name k zs) : ∃ t fr, w.heap[g]? = some (.cells (zs.map fun z => Value.int k z).toArray t fr) := by
 unfold Lib.TabIs World.var? at ht
 rw [hg, cW] at ht
 split at ht
 ·rename_i cs t fr hb
  obtain rfl := cV ht
  exact ⟨t, fr, hb⟩
 ·cases ht
theorem InW.cN (h : InW P ρ H w) {name : String} {g : Nat} {k : IntKind} {zs : List Int} {ty : TypeId} (hg : P.globalNamed name = some g) (ht : Lib.TabIs P w name k zs) (hgH : g = H.length) (hty : iD P ty = some 1) :
 InW P (ρ.put H.length (zs.map fun z => Value.int k z).length ⟨g, 0, zs.length, 1⟩) (H.cons (.cells (zs.map fun z => Value.int k z) ty false 0 1)) w := by
 obtain ⟨t, fr, hb⟩ := a3T hg ht
 refine (h.row ⟨g, 0, zs.length, 1⟩ hb (ty := ty) hty (by simp) (zs.map fun z => Value.int k z) 1 (fun _ => ⟨hgH, rfl⟩) (by simp) fun i c hi _ hc => ⟨c, ?_, ?_⟩).1
 ·have : (⟨g, 0, zs.length, 1⟩ : Place).at i = i := by simp [Place.at]
  rw [this]
  simpa using hc
 ·rw [eH] at hc
  obtain ⟨z, _, rfl⟩ := dh.1 hc
  exact .c0 (.flat rfl)
end
theorem c4t : ∀ A b, iQ gH A = some b → ∃ cs ty lo, b = .cells cs ty false lo 1 ∧ kI cs = true := by
 intro A b h
 unfold gH at h
 have hn : ∀ (H : Heap) (c : Blk), iQ (H.cons c) A = some b → (A = H.length ∧ b = c) ∨ iQ H A = some b := fun H c h => by
  by_cases he : A = H.length
  ·subst he; rw [iM] at h; exact .inl ⟨rfl, (cV h).symm⟩
  ·have hA : A < (H.cons c).length := jH h
   rw [length_cons] at hA
   rw [jL _ (by omega)] at h
   exact .inr h
 rcases hn _ _ h with ⟨_, rfl⟩ | h
 ·exact ⟨_, _, _, rfl, by kernel_rfl⟩
 rcases hn _ _ h with ⟨_, rfl⟩ | h
 ·exact ⟨_, _, _, rfl, by kernel_rfl⟩
 rcases hn _ _ h with ⟨_, rfl⟩ | h
 ·exact ⟨_, _, _, rfl, by kernel_rfl⟩
 rcases hn _ _ h with ⟨_, rfl⟩ | h
 ·exact ⟨_, _, _, rfl, by kernel_rfl⟩
 ·have : A < 0 := jH h
  omega
theorem ExtW.glob {ρ ρ' : Rho} {H' : Heap} (h : ExtW ρ gH ρ' H') : Glob gH H' := ⟨h.len, fun A hA => h.old A hA, c4t⟩
def p10 : List Int := [1, 10, 100, 1000, 10000, 100000, 1000000, 10000000, 100000000, 1000000000, 10000000000, 100000000000, 1000000000000, 10000000000000, 100000000000000, 1000000000000000, 10000000000000000, 100000000000000000, 1000000000000000000, 10000000000000000000]
theorem g64 : Tryz.prog.globalNamed "math/bits.deBruijn64tab" = some 0 := by kernel_rfl
theorem pH : Tryz.prog.globalNamed "internal/strconv.uint64pow10" = some 2 := by kernel_rfl
theorem g32 : Tryz.prog.globalNamed "math/bits.deBruijn32tab" = some 3 := by kernel_rfl
theorem b8l {w : World} (h64 : Lib.TabIs Tryz.prog w "math/bits.deBruijn64tab" .u8 (t64.map Int.ofNat)) (h10 : Lib.TabIs Tryz.prog w "internal/strconv.uint64pow10" .u64 p10)
 (h32 : Lib.TabIs Tryz.prog w "math/bits.deBruijn32tab" .u8 (t32.map Int.ofNat)) (h1001 : ∃ cs t fr, w.heap[1]? = some (.cells cs t fr)) : ∃ ρ, InW Tryz.prog ρ gH w := by
 have a0 := (InW.none (P := Tryz.prog) w).cN g64 h64 (ty := 5) rfl (by kernel_rfl)
 obtain ⟨cs1, t1, fr1, hb1⟩ := h1001
 have a1 := (a0.row ⟨1, 0, cs1.size, 1⟩ hb1 (ty := 3) (by kernel_rfl) rfl [] 1 (fun _ => ⟨rfl, rfl⟩) (by simp) (fun i c hi => by simp at hi)).1
 have a2 := a1.cN pH h10 (ty := 38) rfl (by kernel_rfl)
 have a3 := a2.cN g32 h32 (ty := 5) rfl (by kernel_rfl)
 exact ⟨_, a3⟩
end Go.Ds
namespace Go.Ds
noncomputable section
variable {P : Program} {H0 : Base} {H : Heap} {os : List Ob} {κ β : Type} [DecidableEq κ] {enc : κ → Value} {f : β → Value} {t : TypeId} {z : Value}
structure MapK (P : Program) (t : TypeId) {κ : Type} [DecidableEq κ] (enc : κ → Value) (z : Value) : Prop where
 ex : ∃ kt et, yB P t = some (kt, et) ∧ jB P et = some z ∧ jC z = true ∧ (∀ b k, xG P b kt (enc k) = true) ∧
  (∀ k (es : List MapEntry) (ks : List κ), es.map (·.key) = ks.map enc → rI P kt (enc k) es = some (ks.findIdx? fun x => decide (x = k))) ∧ ∀ k, Instr.sameBits 10000 (enc k) (enc k) = true
def kcs (enc : κ → Value) (f : β → Value) (kvs : List (κ × β)) : List Value := kvs.flatMap fun p => [enc p.1, f p.2]
def a2j (kvs : List (κ × β)) (k : κ) : Option β := (kvs.find? fun p => decide (p.1 = k)).map (·.2)
def a4e (kvs : List (κ × β)) (k : κ) (v : β) : List (κ × β) := match kvs.findIdx? (fun p => decide (p.1 = k)) with
 | some j => kvs.set j (k, v)
 | none => kvs ++ [(k, v)]
theorem a5q : ∀ (es : List MapEntry) (kvs : List (κ × β)), kcs enc f kvs = mcs es → es.map (·.key) = kvs.map (fun p => enc p.1) ∧ es.map (·.val) = kvs.map (fun p => f p.2)
 | [], [], _ => ⟨rfl, rfl⟩
 | [], p :: kvs, h => by simp [kcs, mcs] at h
 | e :: es, [], h => by simp [kcs, mcs] at h
 | e :: es, p :: kvs, h => by
   simp only [kcs, mcs, dL, ia, fc, fR] at h
   obtain ⟨h1, h2, h3⟩ := h
   obtain ⟨h4, h5⟩ := a5q es kvs h3
   simp only [ed]
   exact ⟨by rw [h4, h1], by rw [h5, h2]⟩
theorem a8U : ∀ (es : List MapEntry) (kvs : List (κ × β)), es.map (·.key) = kvs.map (fun p => enc p.1) → es.map (·.val) = kvs.map (fun p => f p.2) → kcs enc f kvs = mcs es
 | [], [], _, _ => rfl
 | [], p :: kvs, h, _ => by simp at h
 | e :: es, [], h, _ => by simp at h
 | e :: es, p :: kvs, h, h' => by
   simp only [ed, fR] at h h'
   have := a8U es kvs h.2 h'.2
   simp only [kcs, mcs, dL] at this ⊢
   rw [this, h.1, h'.1]
theorem St.cd (hS : St P H0 H os) (i : Nat) {A : Nat} {cs : List Value} (ho : os[i]? = some ⟨.map (some A), 0, cs⟩) : ∃ es ck ver, iQ H A = some (.map es ck ver) ∧ cs = mcs es ∧ Stamps es ck := by
 have := hS.own _ (dO ho)
 unfold OwnAt at this
 rw [if_pos rfl] at this
 rcases this with ⟨_, _, _, _, _, _, h⟩ | ⟨A', es, ck, ver, h1, h2, h3, h4⟩
 ·cases h
 ·simp only [Value.map.injEq, dF] at h3
  subst h3
  exact ⟨es, ck, ver, h1, h2, h4⟩
theorem b1f (kvs : List (κ × β)) (k : κ) : (∃ j x, (kvs.map (·.1)).findIdx? (fun x => decide (x = k)) = some j ∧ kvs[j]? = some x ∧ kvs.find? (fun p => decide (p.1 = k)) = some x) ∨ ((kvs.map (·.1)).findIdx? (fun x => decide (x = k)) = none ∧ kvs.find? (fun p => decide (p.1 = k)) = none) := by
 induction kvs with
 | nil => exact .inr ⟨rfl, rfl⟩
 | cons p kvs ih =>
   by_cases h : p.1 = k
   ·exact .inl ⟨0, p, by simp [eT, h], rfl, by simp [h]⟩
   ·rcases ih with ⟨j, x, h1, h2, h3⟩ | ⟨h1, h2⟩
    ·exact .inl ⟨j + 1, x, by simp [eT, h, h1], by simpa using h2, by simp [h, h3]⟩
    ·exact .inr ⟨by simp [eT, h, h1], by simp [h, h2]⟩
theorem St.cS (hS : St P H0 H os) (i : Nat) {A : Nat} {kvs : List (κ × β)} (ho : os[i]? = some ⟨.map (some A), 0, kcs enc f kvs⟩) (hk : MapK P t enc z) (hf : ∀ b, mX (f b) = true) (c : Bool) (k : κ) :
 pC P H t (.map (some A)) (enc k) c = some (pairV c (((a2j kvs k).map f).getD z) (a2j kvs k).isSome) := by
 obtain ⟨kt, et, h1, h2, h3, h4, h5, h6⟩ := hk.ex
 obtain ⟨es, ck, ver, h7, h8, _⟩ := hS.cd i ho
 obtain ⟨h9, h10⟩ := a5q es kvs h8
 have hi := h5 k es (kvs.map (·.1)) (by rw [h9]; simp [gS])
 simp only [pC, h1, cW, a2u, h7, h4, if_true, hi, a2j]
 rcases b1f kvs k with ⟨j, x, e1, e2, e3⟩ | ⟨e1, e3⟩
 ·have hj : es[j]?.map (·.val) = some (f x.2) := by
   rw [← eH, h10, eH, e2]; rfl
  cases he : es[j]? with
  | none => rw [he] at hj; simp at hj
  | some e =>
    rw [he] at hj
    simp only [dM, dF] at hj
    simp only [e1, he, cW, hj, hf, if_true, e3, dM, eW, Option.isSome_some]
 ·simp only [e1, e3, Option.map_none, Option.getD_none, Option.isSome_none, h2, cW, h3, if_true]
def a6l (P : Program) (H : Heap) (t : TypeId) (x k : Value) (c : Bool) (K : Value → Prop) (_k : Keep K := ⟨⟩) : Prop := ∃ v, pC P H t x k c = some v ∧ K v
theorem a6I {t : TypeId} {x x' k k' : Value} {c : Bool} {K : Value → Prop} (h : x = x') (h2 : k = k') : a6l P H t x k c K = a6l P H t x' k' c K := by rw [h, h2]
attribute [congr] a6I
theorem a8c (d ty pos af g) (t : TypeId) (x k : Operand) (c : Bool) (l : List Value) (K : Value → Heap → Prop) :
 lS P ⟨d, .lookup t x k c, ty, pos, af, g⟩ l H K = jG x l fun x => jG k l fun k => a6l P H t x k c fun v => K v H := by
 have h2 : jW ((pC P H t (ev l x) (ev l k) c).map fun v => (v, H)) K = ∃ v, pC P H t (ev l x) (ev l k) c = some v ∧ K v H := by
  cases pC P H t (ev l x) (ev l k) c <;> simp [jW]
 simp only [lS, opD, jG, Op.operands, a6l, h2]
 simp [and_assoc]
theorem St.bO (hS : St P H0 H os) (i : Nat) {A : Nat} {kvs : List (κ × β)} (ho : os[i]? = some ⟨.map (some A), 0, kcs enc f kvs⟩) (hk : MapK P t enc z) (hf : ∀ b, mX (f b) = true) {c : Bool} {k : κ} {K : Value → Prop}
 (h : K (pairV c (((a2j kvs k).map f).getD z) (a2j kvs k).isSome)) : a6l P H t (.map (some A)) (enc k) c K := ⟨_, hS.cS i ho hk hf c k, h⟩
def a4l (P : Program) (H : Heap) (t : TypeId) (K : Value → Heap → Prop) (_k : Keep K := ⟨⟩) : Prop := ∃ v H1, pG P H t none = some (v, H1) ∧ K v H1
theorem a7m (d ty pos af g) (t : TypeId) (l : List Value) (K : Value → Heap → Prop) : lS P ⟨d, .makeMap t none, ty, pos, af, g⟩ l H K = a4l P H t K := by
 simp only [lS, opD, Op.operands, a4l, mL]
 simp
theorem St.bW (hS : St P H0 H os) (hk : MapK P t enc z) {K : Value → Heap → Prop} (h : ∀ A H1, St P H0 H1 (os ++ [⟨.map (some A), 0, []⟩]) → K (.map (some A)) H1) : a4l P H t K := by
 obtain ⟨kt, et, h1, _⟩ := hk.ex
 refine ⟨.map (some H.length), H.cons (.map [] 0 0), by simp [pG, h1], h _ _ (hS.add ?_ ?_ ?_ ?_)⟩
 ·unfold OwnAt
  rw [if_pos rfl]
  exact .inr ⟨_, [], 0, 0, iM H _, rfl, rfl, .nil 0⟩
 ·simp [pD]
 ·exact fun B hB => jL _ hB
 ·intro B hB
  simp [kO] at hB
  omega
def b3H (P : Program) (H : Heap) (t : TypeId) (m k v : Value) (K : Heap → Prop) (_k : Keep K := ⟨⟩) : Prop := ∃ H1, a0L P H t m k v = some H1 ∧ K H1
theorem a7U {t : TypeId} {m m' k k' v v' : Value} {K : Heap → Prop} (h : m = m') (h2 : k = k') (h3 : v = v') : b3H P H t m k v K = b3H P H t m' k' v' K := by rw [h, h2, h3]
attribute [congr] a7U
theorem a2H (d ty pos af g) (t : TypeId) (m k v : Operand) (l : List Value) (K : Value → Heap → Prop) :
 lS P ⟨d, .mapUpdate t m k v, ty, pos, af, g⟩ l H K = jG m l fun m => jG k l fun k => jG v l fun v => b3H P H t m k v fun H1 => K undef H1 := by
 have h2 : jW ((a0L P H t (ev l m) (ev l k) (ev l v)).map fun H => (undef, H)) K = ∃ H1, a0L P H t (ev l m) (ev l k) (ev l v) = some H1 ∧ K undef H1 := by
  cases a0L P H t (ev l m) (ev l k) (ev l v) <;> simp [jW]
 simp only [lS, opD, jG, Op.operands, b3H, h2]
 simp [and_assoc]
theorem b1b (kvs : List (κ × β)) (k : κ) (v : β) : a4e kvs k v = match (kvs.map (·.1)).findIdx? (fun x => decide (x = k)) with | some j => kvs.set j (k, v) | none => kvs ++ [(k, v)] := by
 unfold a4e
 rw [List.findIdx?_map]
 rfl
theorem St.cr (hS : St P H0 H os) (i : Nat) {A : Nat} {kvs : List (κ × β)} (ho : os[i]? = some ⟨.map (some A), 0, kcs enc f kvs⟩) (hk : MapK P t enc z) {k : κ} {v : β} {K : Heap → Prop}
 (h : ∀ H1, St P H0 H1 (os.set i ⟨.map (some A), 0, kcs enc f (a4e kvs k v)⟩) → K H1) : b3H P H t (.map (some A)) (enc k) (f v) K := by
 obtain ⟨kt, et, h1, h2, h3, h4, h5, h6⟩ := hk.ex
 obtain ⟨es, ck, ver, h7, h8, hst⟩ := hS.cd i ho
 obtain ⟨h9, h10⟩ := a5q es kvs h8
 have hi := h5 k es (kvs.map (·.1)) (by rw [h9]; simp [gS])
 have fin : ∀ es' ck', mcs es' = kcs enc f (a4e kvs k v) → Stamps es' ck' → St P H0 (hset H A (.map es' ck' (ver + 1))) (os.set i ⟨.map (some A), 0, kcs enc f (a4e kvs k v)⟩) := by
  intro es' ck' he hst'
  refine hS.put i ho ?_ ?_ ?_ ?_
  ·unfold OwnAt
   rw [if_pos rfl]
   exact .inr ⟨A, es', ck', _, iR _ (jH h7), he.symm, rfl, hst'⟩
  ·rw [jJ]; exact dj _
  ·intro B hB hne
   exact qH fun hh => hne (by simp [kO, hh])
  ·exact fun B hB => .inl hB
 rcases b1f kvs k with ⟨j, x, e1, e2, _⟩ | ⟨e1, _⟩
 ·have hj : es[j]?.map (·.key) = some (enc x.1) := by
   rw [← eH, h9, eH, e2]; rfl
  have hx : x.1 = k := by
   have := List.findIdx?_eq_some_iff_getElem.1 e1
   obtain ⟨hlt, hd, _⟩ := this
   have hlt' : j < kvs.length := by simpa using hlt
   have : kvs[j] = x := by
    rw [dq hlt'] at e2
    exact cV e2
   simp [this] at hd
   exact hd
  cases he : es[j]? with
  | none => rw [he] at hj; simp at hj
  | some e =>
    rw [he] at hj
    simp only [dM, dF] at hj
    refine ⟨hset H A (.map (es.set j { e with key := enc k, val := f v }) ck (ver + 1)), ?_, h _ (fin _ _ ?_ (hst.set he _ rfl))⟩
    ·have hsb : Instr.sameBits 10000 e.key (enc k) = true := by rw [hj, hx]; exact h6 k
     simp only [a0L, h1, cW, h7, h4, if_true, hi, e1, he, hsb]
    ·symm
     rw [b1b, e1]
     refine a8U _ _ ?_ ?_
     ·rw [gT, gT, h9]
     ·rw [gT, gT, h10]
 ·refine ⟨hset H A (.map (es ++ [{ key := enc k, val := f v, born := ck }]) (ck + 1) (ver + 1)), ?_, h _ (fin _ _ ?_ (hst.push _ rfl))⟩
  ·simp only [a0L, h1, cW, h7, h4, if_true, hi, e1]
  ·symm
   rw [b1b, e1]
   refine a8U _ _ ?_ ?_
   ·rw [dT, dT, h9]; rfl
   ·rw [dT, dT, h10]; rfl
def b8x (P : Program) (H : Heap) (t : TypeId) (m k : Value) (K : Value → Heap → Prop) (_k : Keep K := ⟨⟩) : Prop := ∃ v H1, sL P H t m k = some (v, H1) ∧ K v H1
theorem a8d {t : TypeId} {m m' k k' : Value} {K : Value → Heap → Prop} (h : m = m') (h2 : k = k') : b8x P H t m k K = b8x P H t m' k' K := by rw [h, h2]
attribute [congr] a8d
def b0u (H : Heap) (m b v : Value) (K : Heap → Prop) (_k : Keep K := ⟨⟩) : Prop := ∃ H1, rM H m b v = some H1 ∧ K H1
theorem a5K {m m' b b' v v' : Value} {K : Heap → Prop} (h : m = m') (h2 : b = b') (h3 : v = v') : b0u H m b v K = b0u H m' b' v' K := by rw [h, h2, h3]
attribute [congr] a5K
theorem a5c (d ty pos af g) (t : TypeId) (m k : Operand) (l : List Value) (K : Value → Heap → Prop) :
 lS P ⟨d, .mapEntry t m k, ty, pos, af, g⟩ l H K = jG m l fun m => jG k l fun k => b8x P H t m k K := by
 have h2 : jW (sL P H t (ev l m) (ev l k)) K = ∃ v H1, sL P H t (ev l m) (ev l k) = some (v, H1) ∧ K v H1 := mL ..
 simp only [lS, opD, jG, Op.operands, b8x, h2]
 simp [and_assoc]
theorem a2m (d ty pos af g) (t : TypeId) (m b v : Operand) (l : List Value) (K : Value → Heap → Prop) :
 lS P ⟨d, .entryStore t m b v, ty, pos, af, g⟩ l H K = jG m l fun m => jG b l fun b => jG v l fun v => b0u H m b v fun H1 => K undef H1 := by
 have h2 : jW ((rM H (ev l m) (ev l b) (ev l v)).map fun H => (undef, H)) K = ∃ H1, rM H (ev l m) (ev l b) (ev l v) = some H1 ∧ K undef H1 := by
  cases rM H (ev l m) (ev l b) (ev l v) <;> simp [jW]
 simp only [lS, opD, jG, Op.operands, b0u, h2]
 simp [and_assoc]
theorem a1A (kvs : List (κ × β)) (k k' : κ) (v : β) : a2j (a4e kvs k v) k' = if k' = k then some v else a2j kvs k' := by
 unfold a2j a4e
 induction kvs with
 | nil =>
   by_cases h : k' = k
   ·simp [h]
   ·simp [h, eV h]
 | cons p kvs ih =>
   by_cases hp : p.1 = k
   ·simp only [eT, hp, decide_true, if_true, fP, List.find?_cons]
    by_cases h : k' = k
    ·simp [h]
    ·simp [h, eV h]
   ·have hd : decide (p.1 = k) = false := by simp [hp]
    simp only [eT, hd, dR, if_false]
    by_cases hq : p.1 = k'
    ·have hne : ¬ k' = k := fun e => hp (hq.trans e)
     cases hh : kvs.findIdx? (fun p => decide (p.1 = k)) with
     | none => simp [hq, hne]
     | some j => simp [hq, hne]
    ·cases hh : kvs.findIdx? (fun p => decide (p.1 = k)) with
     | none =>
       rw [hh] at ih
       simpa [hq, List.find?_cons] using ih
     | some j =>
       rw [hh] at ih
       simpa [hq, List.find?_cons] using ih
end
end Go.Ds
namespace Go.Ds
noncomputable section
variable {P : Program} {H : Heap}
theorem kN {α : Type} (P : Program) (x : α) : iL P (pure x) = some x := rfl
theorem jP {t : TypeId} {d : TypeDesc} (h : P.underlying t = some d) : iL P (underlying t) = some d := by
 unfold underlying
 rw [iK]
 have : iL P program = some P := rfl
 rw [this, cW, h]
 rfl
def lC : Operand → Bool
 | .const _ => true
 | _ => false
def oM (c : Bool) (i : Nat) (v : Value) : Operand := if c then .const v else .tmp i
def kS (P : Program) (op : BinOp) (t t2 : TypeId) (cx cy : Bool) (x y : Value) : Option Value := (opD P ⟨none, .binOp op t (oM cx 0 x) (oM cy 1 y) t2, t, "", #[], none⟩ [x, y] .nil).map (·.1)
def kV (P : Program) (op : BinOp) (t t2 : TypeId) (cx cy : Bool) (x y : Value) (K : Value → Prop) (_k : Keep K := ⟨⟩) : Prop := match x, y with
 | .int k a, .int k' b => (match (if k = k' then mI op k a b else none) with | some v => K v | none => jQ (kS P op t t2 cx cy (.int k a) (.int k' b)) K)
 | x, y => jQ (kS P op t t2 cx cy x y) K
theorem a6H {op : BinOp} {t t2 : TypeId} {cx cy : Bool} {x x' y y' : Value} {K : Value → Prop} (h : x = x') (h2 : y = y') : kV P op t t2 cx cy x y K = kV P op t t2 cx cy x' y' K := by rw [h, h2]
attribute [congr] a6H
theorem a7N (x : Operand) (l m : List Value) : ev (ev l x :: m) (oM (lC x) 0 (ev l x)) = ev l x := by cases x <;> rfl
theorem a9R (x : Operand) (l m : List Value) (a : Value) : ev (a :: ev l x :: m) (oM (lC x) 1 (ev l x)) = ev l x := by cases x <;> rfl
theorem b5T (op : BinOp) (t : TypeId) (x y : Operand) (l : List Value) : eqGuard op t x y (ev l x) (ev l y) = eqGuard op t (oM (lC x) 0 (ev l x)) (oM (lC y) 1 (ev l y)) (ev l x) (ev l y) := by
 generalize hx : ev l x = vx
 generalize hy : ev l y = vy
 cases x <;> cases y <;> rfl
theorem b9c (d ty pos af g) (op : BinOp) (t : TypeId) (x y : Operand) (t2 : TypeId) (l : List Value) (H : Heap) :
 opD P ⟨d, .binOp op t x y t2, ty, pos, af, g⟩ l H = (kS P op t t2 (lC x) (lC y) (ev l x) (ev l y)).map fun v => (v, H) := by
 have hp : kL P ⟨d, .binOp op t x y t2, ty, pos, af, g⟩ l H = _ := mT (P := P) ⟨d, .binOp op t x y t2, ty, pos, af, g⟩ ⟨none, .binOp op t (oM (lC x) 0 (ev l x)) (oM (lC y) 1 (ev l y)) t2, t, "", #[], none⟩ l [ev l x, ev l y] H
  (by simp only [Op.operands, ed, gj, a7N, a9R]) (by
    simp only [execOp]
    rw [a7N, a9R, ← b5T])
 simp only [opD, kS, hp, a7N, a9R]
 generalize kL P _ _ _ = r
 generalize ev l x = vx
 generalize ev l y = vy
 split
 all_goals first
  | (split <;> first | rfl | (split <;> first | rfl | (cases r <;> rfl)) | (cases r <;> rfl))
  | (cases r <;> rfl)
theorem b4k (d ty pos af g) (op : BinOp) (t : TypeId) (x y : Operand) (t2 : TypeId) (l : List Value) (K : Value → Heap → Prop) :
 lS P ⟨d, .binOp op t x y t2, ty, pos, af, g⟩ l H K = jG x l fun x' => jG y l fun y' => kV P op t t2 (lC x) (lC y) x' y' fun v => K v H := by
 have h : jW (opD P ⟨d, .binOp op t x y t2, ty, pos, af, g⟩ l H) K = kV P op t t2 (lC x) (lC y) (ev l x) (ev l y) fun v => K v H := by
  have key : jW ((kS P op t t2 (lC x) (lC y) (ev l x) (ev l y)).map fun v => (v, H)) K = jQ (kS P op t t2 (lC x) (lC y) (ev l x) (ev l y)) fun v => K v H := by
   cases kS P op t t2 (lC x) (lC y) (ev l x) (ev l y) <;> rfl
  rw [b9c, key]
  unfold kV
  split
  ·rename_i k a k' b hx hy
   split
   ·rename_i v hv
    split at hv
    ·rename_i hk
     subst hk
     have : kS P op t t2 (lC x) (lC y) (.int k a) (.int k b) = some v := by
      have h1 : ∀ m, ev ((.int k a : Value) :: m) (oM (lC x) 0 (.int k a)) = .int k a := fun m => by cases lC x <;> rfl
      have h2 : ∀ m c, ev (c :: (.int k b : Value) :: m) (oM (lC y) 1 (.int k b)) = .int k b := fun m c => by cases lC y <;> rfl
      cases op <;> simp only [mI] at hv <;> first | (cases hv; done) | (simp only [kS, opD, h1, h2, mI, if_true, hv]; rfl)
     rw [hx, hy, this]
     rfl
    ·cases hv
   ·rw [hx, hy]
  ·rfl
 simp only [lS, h, jG, Op.operands]
 simp [and_assoc]
theorem lV (op : BinOp) (t t2 : TypeId) (cx cy : Bool) (k : IntKind) (a b : Int) {v : Value} (K : Value → Prop) (h : mI op k a b = some v) : kV P op t t2 cx cy (.int k a) (.int k b) K = oN v K := by
 simp [kV, h, oN]
section
theorem b2S (t t2 : TypeId) (cx cy : Bool) (k : IntKind) (a b : Int) (K : Value → Prop) : kV P .add t t2 cx cy (.int k a) (.int k b) K = oN (.int k (k.wrap (a + b))) K := lV _ _ _ _ _ _ _ _ _ (by simp [mI, b1j, tJ])
theorem b2A (t t2 : TypeId) (cx cy : Bool) (k : IntKind) (a b : Int) (K : Value → Prop) : kV P .sub t t2 cx cy (.int k a) (.int k b) K = oN (.int k (k.wrap (a - b))) K := lV _ _ _ _ _ _ _ _ _ (by simp [mI, b0X, tJ])
theorem b1M (t t2 : TypeId) (cx cy : Bool) (k : IntKind) (a b : Int) (K : Value → Prop) : kV P .mul t t2 cx cy (.int k a) (.int k b) K = oN (.int k (k.wrap (a * b))) K := lV _ _ _ _ _ _ _ _ _ (by simp [mI, tJ])
theorem b2m (t t2 : TypeId) (cx cy : Bool) (k : IntKind) (a b : Int) (K : Value → Prop) : kV P .eql t t2 cx cy (.int k a) (.int k b) K = oN (.bool (decide (a = b))) K := lV _ _ _ _ _ _ _ _ _ (by simp [mI, a1T]; rfl)
theorem b1E (t t2 : TypeId) (cx cy : Bool) (k : IntKind) (a b : Int) (K : Value → Prop) : kV P .neq t t2 cx cy (.int k a) (.int k b) K = oN (.bool (decide (¬ a = b))) K := lV _ _ _ _ _ _ _ _ _ (by simp [mI, a1T]; rfl)
theorem b1O (t t2 : TypeId) (cx cy : Bool) (k : IntKind) (a b : Int) (K : Value → Prop) : kV P .lss t t2 cx cy (.int k a) (.int k b) K = oN (.bool (decide (a < b))) K := lV _ _ _ _ _ _ _ _ _ (by simp [mI, zB])
theorem b3i (t t2 : TypeId) (cx cy : Bool) (k : IntKind) (a b : Int) (K : Value → Prop) : kV P .leq t t2 cx cy (.int k a) (.int k b) K = oN (.bool (decide (a ≤ b))) K := lV _ _ _ _ _ _ _ _ _ (by simp [mI, zB, ← Int.not_lt])
theorem b3s (t t2 : TypeId) (cx cy : Bool) (k : IntKind) (a b : Int) (K : Value → Prop) : kV P .gtr t t2 cx cy (.int k a) (.int k b) K = oN (.bool (decide (b < a))) K := lV _ _ _ _ _ _ _ _ _ (by simp [mI, zB])
theorem b2M (t t2 : TypeId) (cx cy : Bool) (k : IntKind) (a b : Int) (K : Value → Prop) : kV P .geq t t2 cx cy (.int k a) (.int k b) K = oN (.bool (decide (b ≤ a))) K := lV _ _ _ _ _ _ _ _ _ (by simp [mI, zB, ← Int.not_lt])
theorem b1l (t t2 : TypeId) (cx cy : Bool) (k : IntKind) (a b : Int) (K : Value → Prop) (hb : b ≠ 0) : kV P .rem t t2 cx cy (.int k a) (.int k b) K = oN (.int k (a.tmod b)) K := lV _ _ _ _ _ _ _ _ _ (by
 have : (b == 0) = false := by simp [hb]
 simp [mI, a1T, this])
theorem b3o (t t2 : TypeId) (cx cy : Bool) (k : IntKind) (a b : Int) (K : Value → Prop) (hb : b ≠ 0) : kV P .quo t t2 cx cy (.int k a) (.int k b) K = oN (.int k (k.wrap (a.tdiv b))) K := lV _ _ _ _ _ _ _ _ _ (by
 have : (b == 0) = false := by simp [hb]
 simp [mI, a1T, tJ, this])
end
theorem lJ {op : BinOp} {t t2 : TypeId} {cx cy : Bool} {x y v : Value} (hx : flat x = true) (hy : flat y = true) (hg : iL P (eqGuard op t (oM cx 0 x) (oM cy 1 y) x y) = some ())
 (hv : iL P (binOp op t x y) = some v) (hf : flat v = true) (hs : ∀ a n c, x ≠ .slice (some a) n c) (hp : ∀ a, x ≠ .pointer (some a)) (hi : ∀ k a b, x = .int k a → y = .int k b → mI op k a b = none) : kS P op t t2 cx cy x y = some v := by
 have h1 : ∀ m, ev (x :: m) (oM cx 0 x) = x := fun m => by cases cx <;> rfl
 have h2 : ∀ m c, ev (c :: y :: m) (oM cy 1 y) = y := fun m c => by cases cy <;> rfl
 have hpl : kL P ⟨none, .binOp op t (oM cx 0 x) (oM cy 1 y) t2, t, "", #[], none⟩ [x, y] .nil = some (v, .nil) := by
  unfold kL
  rw [if_pos (by simp [Op.operands, h1, h2, hx, hy])]
  have : execOp (ev [x, y]) ⟨none, .binOp op t (oM cx 0 x) (oM cy 1 y) t2, t, "", #[], none⟩ = (do let v ← (do eqGuard op t (oM cx 0 x) (oM cy 1 y) x y; binOp op t x y); pure (.value v)) := by
   simp only [execOp, h1, h2]
  rw [this, iK, iK, hg, cW, hv, cW, kN]
  simp only [hf, if_true]
 simp only [kS, opD, h1, h2, hpl]
 split
 ·exact absurd rfl (hs _ _ _)
 ·exact absurd rfl (hs _ _ _)
 ·rename_i k a k' b
  split
  ·rename_i hk
   subst hk
   rw [hi _ _ _ rfl rfl]
   rfl
  ·rfl
 ·exact absurd rfl (hp _)
 ·exact absurd rfl (hp _)
 ·exact absurd rfl (hp _)
 ·exact absurd rfl (hp _)
 ·rfl
theorem pZ {op : BinOp} {t : TypeId} {x y : Operand} {k k' : IntKind} {a b : Int} : iL P (eqGuard op t x y (.int k a) (.int k' b)) = some () := by
 unfold eqGuard
 split <;> rfl
section
theorem b5a (t t2 : TypeId) (cx cy : Bool) (a b : Int) {k k' : IntKind} (hb : 0 ≤ b) : kS P .shr t t2 cx cy (.int k a) (.int k' b) = some (.int k (a.fdiv (2 ^ (min b.toNat k.bits)))) :=
 lJ rfl rfl pZ (by simp only [binOp, Op.shift]; rw [if_neg (by omega)]; rfl) rfl (by simp) (by simp) (by intros; rfl)
theorem b4P (t t2 : TypeId) (cx cy : Bool) (a b : Int) {k k' : IntKind} (hb : 0 ≤ b) : kS P .shl t t2 cx cy (.int k a) (.int k' b) = some (.int k (k.wrap (a * 2 ^ (min b.toNat k.bits)))) :=
 lJ rfl rfl pZ (by simp only [binOp, Op.shift]; rw [if_neg (by omega)]; rfl) rfl (by simp) (by simp) (by intros; rfl)
theorem b5U (t t2 : TypeId) (cx cy : Bool) (a b : Int) (k : IntKind) : kS P .and t t2 cx cy (.int k a) (.int k b) = some (.int k (k.wrap (BitVec.ofInt k.bits a &&& BitVec.ofInt k.bits b).toNat)) :=
 lJ rfl rfl pZ (by simp only [binOp]; rw [if_neg (by simp)]; rfl) rfl (by simp) (by simp) (by intros; rfl)
theorem b8k (t t2 : TypeId) (cx cy : Bool) (a b : Int) (k : IntKind) : kS P .or t t2 cx cy (.int k a) (.int k b) = some (.int k (k.wrap (BitVec.ofInt k.bits a ||| BitVec.ofInt k.bits b).toNat)) :=
 lJ rfl rfl pZ (by simp only [binOp]; rw [if_neg (by simp)]; rfl) rfl (by simp) (by simp) (by intros; rfl)
theorem b4W (t t2 : TypeId) (cx cy : Bool) (a b : Int) (k : IntKind) : kS P .xor t t2 cx cy (.int k a) (.int k b) = some (.int k (k.wrap (BitVec.ofInt k.bits a ^^^ BitVec.ofInt k.bits b).toNat)) :=
 lJ rfl rfl pZ (by simp only [binOp]; rw [if_neg (by simp)]; rfl) rfl (by simp) (by simp) (by intros; rfl)
theorem a5I (t t2 : TypeId) (cx cy : Bool) (a b : Int) (k : IntKind) : kS P .andNot t t2 cx cy (.int k a) (.int k b) = some (.int k (k.wrap (BitVec.ofInt k.bits a &&& ~~~ BitVec.ofInt k.bits b).toNat)) :=
 lJ rfl rfl pZ (by simp only [binOp]; rw [if_neg (by simp)]; rfl) rfl (by simp) (by simp) (by intros; rfl)
end
section
variable (a b : ByteArray)
theorem yV {op : BinOp} {t : TypeId} {x y : Operand} : iL P (eqGuard op t x y (.string a) (.string b)) = some () := by
 unfold eqGuard
 split <;> rfl
theorem a0F (h : a.data.toList = b.data.toList) : a = b := by
 cases a; cases b
 simp only [ByteArray.mk.injEq]
 exact Array.toList_inj.1 h
theorem a2a : (a.toList == b.toList) = decide (a = b) := by
 rw [ByteArray.toList_eq, ByteArray.toList_eq, ey, beq_iff_eq, decide_eq_true_iff]
 exact ⟨a0F a b, fun h => by rw [h]⟩
theorem a8T (t t2 : TypeId) (cx cy : Bool) (a b : ByteArray) : kS P .eql t t2 cx cy (.string a) (.string b) = some (.bool (decide (a = b))) :=
 lJ rfl rfl (yV a b) (by rw [← a2a]; rfl) rfl (by simp) (by simp) (by intro _ _ _ h; cases h)
theorem a9U (t t2 : TypeId) (cx cy : Bool) (a b : ByteArray) : kS P .neq t t2 cx cy (.string a) (.string b) = some (.bool (decide (¬ a = b))) :=
 lJ rfl rfl (yV a b) (by
  have : decide (¬ a = b) = !(a.toList == b.toList) := by rw [a2a]; simp
  rw [this]; rfl) rfl (by simp) (by simp) (by intro _ _ _ h; cases h)
theorem a0G (t t2 : TypeId) (cx cy : Bool) (a b : ByteArray) (h : a.size + b.size < 9223372036854775808) : kS P .add t t2 cx cy (.string a) (.string b) = some (.string (a ++ b)) :=
 lJ rfl rfl (yV a b) (by
  simp only [binOp, Op.stringOp]
  rw [if_neg]
  ·rfl
  ·have : IntKind.i64.max = 9223372036854775807 := by decide
   rw [this]; omega) rfl (by simp) (by simp) (by intro _ _ _ h; cases h)
end
theorem b4j {t : TypeId} (s : ByteArray) (ht : nS P t = true) : zP P H t (.string s) = some (.int .i64 s.size) := by
 unfold nS at ht
 unfold zP
 split at ht
 ·rename_i h; rw [h]; simp [wL, goInt]
 ·cases ht
def oT (P : Program) (t : TypeId) (x i : Value) : Option Value := (opD P ⟨none, .index t (.const x) (.const i), t, "", #[], none⟩ [] .nil).map (·.1)
theorem b1A (d ty pos af g) (t : TypeId) (x i : Operand) (l : List Value) (K : Value → Heap → Prop) :
 lS P ⟨d, .index t x i, ty, pos, af, g⟩ l H K = jG x l fun x => jG i l fun i => jQ (oT P t x i) fun v => K v H := by
 have h : opD P ⟨d, .index t x i, ty, pos, af, g⟩ l H = (oT P t (ev l x) (ev l i)).map fun v => (v, H) := by
  have hp := mT (P := P) ⟨d, .index t x i, ty, pos, af, g⟩ ⟨none, .index t (.const (ev l x)) (.const (ev l i)), t, "", #[], none⟩ l [] H rfl rfl
  simp only [opD, oT]
  exact hp
 have h2 : jW ((oT P t (ev l x) (ev l i)).map fun v => (v, H)) K = jQ (oT P t (ev l x) (ev l i)) fun v => K v H := by cases oT P t (ev l x) (ev l i) <;> rfl
 simp only [lS, h, jG, Op.operands, h2]
 simp [and_assoc]
def nY (s : ByteArray) (i : Nat) : Nat := (s.data.toList.getD i 0).toNat
theorem a9x {t : TypeId} (s : ByteArray) (k : IntKind) (i : Int) (ht : nS P t = true) (h0 : 0 ≤ i) (h1 : i < s.size) : oT P t (.string s) (.int k i) = some (.int .u8 (nY s i.toNat)) := by
 have hu : P.underlying t = some .string := by
  unfold nS at ht
  split at ht
  ·rename_i h; exact h
  ·cases ht
 have hr : iL P (Instr.index t (.string s) (.int k i)) = some (.int .u8 (nY s i.toNat)) := by
  unfold Instr.index
  rw [iK]
  have e1 : iL P (asIntOf (.int k i)) = some (k, i) := rfl
  rw [e1, cW]
  simp only [iK, jP hu, cW]
  rw [if_pos h0]
  have hlt : i.toNat < s.size := by omega
  have hb : s[i.toNat]? = some s[i.toNat] := by simp [getElem?_pos, hlt]
  simp only [hb]
  rw [kN]
  congr 3
  unfold nY
  rw [dc]
  have hl : i.toNat < s.data.toList.length := by simpa using hlt
  rw [dq hl]
  rfl
 have hpl : kL P ⟨none, .index t (.const (.string s)) (.const (.int k i)), t, "", #[], none⟩ [] .nil = some (.int .u8 (nY s i.toNat), .nil) := by
  unfold kL
  rw [if_pos (by rfl)]
  have : execOp (ev []) ⟨none, .index t (.const (.string s)) (.const (.int k i)), t, "", #[], none⟩ = (do let v ← Instr.index t (.string s) (.int k i); pure (.value v)) := rfl
  rw [this, iK, hr, cW, kN]
  rfl
 simp only [oT, opD, hpl]
 rfl
def a0O (P : Program) (t : TypeId) : Option IntKind := match P.underlying t with | some (.int k) => some k | _ => none
theorem yR {t : TypeId} {k : IntKind} (h : a0O P t = some k) : P.underlying t = some (.int k) := by
 unfold a0O at h
 split at h
 ·rename_i h2; rw [h2]; injection h with h; rw [h]
 ·cases h
theorem b1S {s t : TypeId} {k k' : IntKind} (a : Int) (hs : a0O P s = some k) (ht : a0O P t = some k') : a1K P s t (.int k a) = some (.int k' (k'.wrap a)) := by
 have hr : iL P (convert s t (.int k a)) = some (.int k' (k'.wrap a)) := by
  unfold convert
  simp only [iK, jP (yR hs), jP (yR ht), cW]
  rfl
 have hpl : kL P ⟨none, .convert s t (.const (.int k a)), t, "", #[], none⟩ [] .nil = some (.int k' (k'.wrap a), .nil) := by
  unfold kL
  rw [if_pos (by rfl)]
  have : execOp (ev []) ⟨none, .convert s t (.const (.int k a)), t, "", #[], none⟩ = (do let v ← convert s t (.int k a); pure (.value v)) := rfl
  rw [this, iK, hr, cW, kN]
  rfl
 simp only [a1K, hpl]
 rfl
def a4j (P : Program) (d : Nat) (xs ys : Array Value) (fs : List Field) : Option Bool :=
 (iL P (forIn fs ((none, ()) : Option Bool × Unit) fun f _ =>
   if f.name ≠ "_" then do
    let a ← part f.type xs f.offset
    let b ← part f.type ys f.offset
    let c ← Op.equalIn d f.type a b
    if (!c) = true then pure (ForInStep.done (some false, ())) else pure (ForInStep.yield (none, ()))
   else pure (ForInStep.yield (none, ())))).bind fun x => iL P (match x.fst with | some r => pure r | none => pure true)
theorem a1s {d : Nat} {xs ys : Array Value} (g : Field → Bool) : ∀ (fs : List Field), (∀ f ∈ fs, f.name ≠ "_" ∧ iL P (part f.type xs f.offset >>= fun x => part f.type ys f.offset >>= fun y => Op.equalIn d f.type x y) = some (g f)) →
 a4j P d xs ys fs = some (fs.all g)
 | [], _ => rfl
 | f :: fs, hg => by
   obtain ⟨h1, h2⟩ := hg f (eE ..)
   have ih := a1s g fs fun f' h => hg f' (eM _ h)
   unfold a4j at ih ⊢
   rw [iK] at h2
   simp only [List.forIn_cons, h1, ne_eq, not_false_eq_true, if_true, iK]
   cases hx : iL P (part f.type xs f.offset) with
   | none => rw [hx] at h2; cases h2
   | some x =>
     rw [hx, cW, iK] at h2
     cases hy : iL P (part f.type ys f.offset) with
     | none => rw [hy] at h2; cases h2
     | some y =>
       rw [hy, cW] at h2
       simp only [cW, h2]
       cases hgf : g f with
       | false =>
         simp only [Bool.not_false, if_true, kN, cW, fo, hgf, fw]
       | true =>
         simp only [Bool.not_true, dR, if_false, kN, cW, fo, hgf, gK]
         exact ih
theorem b6s {d : Nat} {t : TypeId} {fs : List Field} {xs ys : Array Value} (hu : P.underlying t = some (.struct fs.toArray)) (hst : P.stoodInHeld t = false) (g : Field → Bool)
 (hg : ∀ f ∈ fs, f.name ≠ "_" ∧ iL P (part f.type xs f.offset >>= fun x => part f.type ys f.offset >>= fun y => Op.equalIn d f.type x y) = some (g f)) : iL P (Op.equalIn (d + 1) t (.agg xs) (.agg ys)) = some (fs.all g) := by
 rw [Op.equalIn, iK, jP hu, cW]
 have hp : iL P program = some P := rfl
 simp only [iK, hp, cW, hst, dR, if_false, List.forIn_toArray]
 refine Eq.trans ?_ (a1s g fs hg)
 unfold a4j
 congr 1
 funext x
 cases x.fst <;> rfl
theorem a3a {op : BinOp} {t : TypeId} (ht : P.eqGuardType P.depth t = false) {x y : Operand} {a b : Array Value} : iL P (eqGuard op t x y (.agg a) (.agg b)) = some () := by
 have hp : iL P program = some P := rfl
 unfold eqGuard
 cases op <;> simp [iK, hp, ht, kN]
theorem b5C {t t2 : TypeId} {cx cy : Bool} {xs ys : List Value} (b : Bool) (ht : P.eqGuardType P.depth t = false) (hx : xs.all iX = true) (hy : ys.all iX = true) (h : iL P (Op.equalIn (9999 + 1) t (.agg xs.toArray) (.agg ys.toArray)) = some b) :
 kS P .eql t t2 cx cy (.agg xs.toArray) (.agg ys.toArray) = some (.bool b) :=
 lJ (by simp [flat, jC, kI, hx]) (by simp [flat, jC, kI, hy]) (a3a ht) (by
  have hmd : Op.maxDepth = 9999 + 1 := by decide
  simp only [binOp, iK, Op.equal]
  rw [hmd, h, cW, kN]) rfl (by simp) (by simp) (by intro _ _ _ h; cases h)
theorem b6c {t t2 : TypeId} {cx cy : Bool} {xs ys : List Value} (b : Bool) (ht : P.eqGuardType P.depth t = false) (hx : xs.all iX = true) (hy : ys.all iX = true) (h : iL P (Op.equalIn (9999 + 1) t (.agg xs.toArray) (.agg ys.toArray)) = some b) :
 kS P .neq t t2 cx cy (.agg xs.toArray) (.agg ys.toArray) = some (.bool (!b)) :=
 lJ (by simp [flat, jC, kI, hx]) (by simp [flat, jC, kI, hy]) (a3a ht) (by
  have hmd : Op.maxDepth = 9999 + 1 := by decide
  simp only [binOp, iK, Op.equal]
  rw [hmd, h, cW, kN]) rfl (by simp) (by simp) (by intro _ _ _ h; cases h)
end
end Go.Ds
namespace Go.Ds
noncomputable section
variable {P : Program} {H : Heap}
theorem a1v (a b : ByteArray) : (a == b) = decide (b = a) := by
 obtain ⟨x⟩ := a
 obtain ⟨y⟩ := b
 rw [ey, decide_eq_true_iff]
 constructor
 ·intro h
  have e : x = y := by simpa using (show (x == y) = true from h)
  rw [e]
 ·intro h
  cases h
  show (x == x) = true
  simp
theorem a3n (o : Option Nat) (i : Nat) : o.map (i + 1 + ·) = (o.map (· + 1)).map (i + ·) := by
 cases o with
 | none => rfl
 | some j => simp only [dM]; congr 1; omega
theorem a0v (k : ByteArray) : ∀ (es : List MapEntry) (ks : List ByteArray) (i : Nat), es.map (·.key) = ks.map Value.string →
 (Instr.findNow .string (.string k) (es.map wJ) i).map (·.map (·.1)) = some ((ks.findIdx? fun x => decide (x = k)).map (i + ·))
 | [], [], i, _ => rfl
 | [], _ :: _, _, h => by simp at h
 | _ :: _, [], _, h => by simp at h
 | e :: es, s :: ks, i, h => by
   simp only [ed, fR] at h
   have hs : Instr.sameNow .string (.string k) e.key = some (decide (s = k)) := by
    rw [h.1]
    show some (k == s) = _
    rw [a1v]
   simp only [ed, Instr.findNow, wJ, hs, eT]
   by_cases hd : s = k
   ·simp [hd]
   ·simp only [hd, decide_false, dR, if_false]
    have := a0v k es ks (i + 1) h.2
    rw [a3n] at this
    exact this
theorem b0I {κ : Type} [DecidableEq κ] {enc : κ → Value} {kt : TypeId} (heq : ∀ a b, iL P (Op.equal kt (enc a) (enc b)) = some (decide (b = a))) (k : κ) : ∀ (es : List MapEntry) (ks : List κ) (i : Nat), es.map (·.key) = ks.map enc →
 (iL P (Instr.findAsking kt (enc k) (es.map wJ) i)).map (·.map (·.1)) = some ((ks.findIdx? fun x => decide (x = k)).map (i + ·))
 | [], [], i, _ => rfl
 | [], _ :: _, _, h => by simp at h
 | _ :: _, [], _, h => by simp at h
 | e :: es, s :: ks, i, h => by
   simp only [ed, fR] at h
   simp only [ed, Instr.findAsking, wJ, iK, eT]
   rw [h.1, heq, cW]
   by_cases hd : s = k
   ·simp [hd, kN]
   ·simp only [hd, decide_false, dR, if_false]
    have := b0I heq k es ks (i + 1) h.2
    rw [a3n] at this
    exact this
theorem MapK.str {t kt et : TypeId} {z : Value} (hm : yB P t = some (kt, et)) (hu : P.underlying kt = some .string) (hz : jB P et = some z) (hf : jC z = true) : MapK P t Value.string z where
 ex := by
  refine ⟨kt, et, hm, hz, hf, ?_, ?_, ?_⟩
  ·intro b k
   have : iL P (Instr.checkKey b 10000 kt (.string k)) = some () := by
    show iL P (Instr.checkKey b (9999 + 1) kt (.string k)) = some ()
    unfold Instr.checkKey
    rw [iK, jP hu, cW]
    rfl
   simp only [xG, this]
   rfl
  ·intro k es ks h
   have h1 := a0v k es ks 0 h
   unfold rI Instr.findKey
   rw [iK, jP hu, cW]
   cases hn : Instr.findNow .string (.string k) (es.map wJ) 0 with
   | none => rw [hn] at h1; cases h1
   | some r =>
     rw [hn] at h1
     simp only [kN]
     simpa using h1
  ·intro k
   show (k == k) = true
   rw [a1v]
   simp
theorem MapK.struct {κ : Type} [DecidableEq κ] {enc : κ → Value} {t kt et : TypeId} {z : Value} {fs : Array Field} (hm : yB P t = some (kt, et)) (hu : P.underlying kt = some (.struct fs)) (hz : jB P et = some z) (hf : jC z = true)
 (hk : ∀ b k, xG P b kt (enc k) = true) (heq : ∀ a b, iL P (Op.equal kt (enc a) (enc b)) = some (decide (b = a))) (hsb : ∀ k, Instr.sameBits 10000 (enc k) (enc k) = true) : MapK P t enc z where
 ex := by
  refine ⟨kt, et, hm, hz, hf, hk, ?_, hsb⟩
  intro k es ks h
  have h1 := b0I heq k es ks 0 h
  unfold rI Instr.findKey
  rw [iK, jP hu, cW]
  have key : ∀ (l : List MapEntry), Instr.findNow (.struct fs) (enc k) l 0 = none ∨ l = [] := by
   intro l
   cases l with
   | nil => exact .inr rfl
   | cons e l => exact .inl rfl
  rcases key (es.map wJ) with hn | hn
  ·rw [hn]
   simpa using h1
  ·rw [hn]
   have : es = [] := by simpa using hn
   subst this
   have : ks = [] := by cases ks with | nil => rfl | cons a ks => simp at h
   subst this
   rfl
end
end Go.Ds
namespace Go.Ds
noncomputable section
variable {P : Program} {H : Heap}
def a1L (o : Option (Nat × TypeId)) (P : Program) (H : Heap) (t : TypeId) (z : Value) (K : Value → Heap → Prop) (_k : Keep K := ⟨⟩) : Prop := match o with
 | none => uM (jC z) (a4p P H t z K)
 | some _ => uM (jC z) (a8X P H t z K)
theorem a5e {o o' : Option (Nat × TypeId)} {t : TypeId} {z : Value} {K : Value → Heap → Prop} (h : o = o') : a1L o P H t z K = a1L o' P H t z K := by rw [h]
attribute [congr] a5e
theorem b4o {t : TypeId} (z : Value) (K : Value → Heap → Prop) : tT P H t (some z) K = a1L (jM P t) P H t z K := by
 cases h : jM P t with
 | none => exact a6t z K h
 | some n => exact a9O z K h
theorem a7u {t : TypeId} (z : Value) (K : Value → Heap → Prop) : a1L none P H t z K = uM (jC z) (a4p P H t z K) := rfl
theorem a7a {t : TypeId} (n : Nat × TypeId) (z : Value) (K : Value → Heap → Prop) : a1L (some n) P H t z K = uM (jC z) (a8X P H t z K) := rfl
theorem a6y {t : TypeId} {k : IntKind} (h : a0O P t = some k) : kR P t = false := by
 simp [kR, yR h]
def a3y (ks kt : Option IntKind) (P : Program) (s t : TypeId) (H : Heap) (k : IntKind) (a : Int) (K : Value → Heap → Prop) (_k : Keep K := ⟨⟩) : Prop := match ks, kt with
 | some k0, some k' => if k0 = k then K (.int k' (k'.wrap a)) H else rE P s t H (.int k a) K
 | _, _ => rE P s t H (.int k a) K
theorem a5Y {ks ks' kt kt' : Option IntKind} {s t : TypeId} {k : IntKind} {a : Int} {K : Value → Heap → Prop} (h : ks = ks') (h2 : kt = kt') : a3y ks kt P s t H k a K = a3y ks' kt' P s t H k a K := by rw [h, h2]
attribute [congr] a5Y
theorem b7A {s t : TypeId} (k : IntKind) (a : Int) (K : Value → Heap → Prop) : rE P s t H (.int k a) K = a3y (a0O P s) (a0O P t) P s t H k a K := by
 unfold a3y
 split
 ·rename_i k0 k' hs ht
  split
  ·rename_i hk
   subst hk
   rw [b3v k0 a K (a6y ht), b1S a hs ht]
   rfl
  ·rfl
 ·rfl
theorem b3c {s t : TypeId} (k k' : IntKind) (a : Int) (K : Value → Heap → Prop) : a3y (some k) (some k') P s t H k a K = oN (.int k' (k'.wrap a)) fun v => K v H := by simp [a3y, oN]
def c1A (b : Bool) (P : Program) (H : Heap) (t : TypeId) (v : Value) : Option Value := match b with
 | true => (match v with | .string s => some (.int .i64 s.size) | _ => zP P H t v)
 | false => zP P H t v
theorem c1n (t : TypeId) (v : Value) : a8p none P H t v = c1A (nS P t) P H t v := by
 unfold c1A
 split
 ·rename_i h
  split
  ·exact b4j _ h
  ·rfl
 ·rfl
theorem b6M (t : TypeId) (s : ByteArray) : c1A true P H t (.string s) = some (.int .i64 s.size) := rfl
def a2h (b : Bool) (P : Program) (t : TypeId) (x i : Value) : Option Value := match b, x, i with
 | true, .string s, .int k i => if 0 ≤ i ∧ i < s.size then some (.int .u8 (nY s i.toNat)) else oT P t (.string s) (.int k i)
 | _, x, i => oT P t x i
theorem a5N (t : TypeId) (x i : Value) : oT P t x i = a2h (nS P t) P t x i := by
 unfold a2h
 split
 ·rename_i h
  split
  ·rename_i h2; exact a9x _ _ _ h h2.1 h2.2
  ·rfl
 ·rfl
theorem a8f (t : TypeId) (s : ByteArray) (k : IntKind) (i : Int) (h0 : 0 ≤ i) (h1 : i < s.size) : a2h true P t (.string s) (.int k i) = some (.int .u8 (nY s i.toNat)) := by
 simp [a2h, h0, h1]
theorem OC : (∀ k n, oneCell (.int k n) = true) ∧ (∀ b, oneCell (.bool b) = true) ∧ (∀ s, oneCell (.string s) = true) ∧ (∀ a, oneCell (.pointer a) = true) ∧ (∀ a n c, oneCell (.slice a n c) = true) ∧ (∀ r, oneCell (.map r) = true) ∧ (∀ f a b, oneCell (.func f a b) = true) ∧ oneCell .nilFunc = true :=
 ⟨fun _ _ => rfl, fun _ => rfl, fun _ => rfl, fun _ => rfl, fun _ _ _ => rfl, fun _ => rfl, fun _ _ _ => rfl, rfl⟩
theorem c3G (o : Option Bool) : (o.map Value.bool).getD (.bool false) = .bool (o.getD false) := by cases o <;> rfl
theorem c2M (k : IntKind) (o : Option Int) : (o.map (Value.int k)).getD (.int k 0) = .int k (o.getD 0) := by cases o <;> rfl
theorem b7Q (v : Value) (b : Bool) : pairV false v b = v := rfl
theorem b7T (v : Value) (b : Bool) : pairV true v b = .tuple #[v, .bool b] := rfl
theorem b3C (t : Tmp) : lC (.tmp t) = false := rfl
theorem a7Z (v : Value) : lC (.const v) = true := rfl
theorem b5R (s : ByteArray) : flat (.string s) = true := rfl
theorem b1F (s : ByteArray) : jC (.string s) = true := rfl
theorem a8Q (s : ByteArray) : iX (.string s) = true := rfl
theorem a5T (s : ByteArray) : iY (.string s) = true := rfl
theorem b5k (k : IntKind) (n : Int) : pL (.int k n) = true := rfl
theorem b2E (b : Bool) : pL (.bool b) = true := rfl
theorem b5I (s : ByteArray) : pL (.string s) = true := rfl
theorem a2Y {c b : Bool} {p q : Prop} (h1 : c = true → rQ (.bool true) b p q) (h2 : c = false → rQ (.bool false) b p q) : rQ (.bool c) b p q := by
 cases c
 ·exact h2 rfl
 ·exact h1 rfl
theorem St.pick {H0 : Base} {os os' : List Ob} (hS : St P H0 H os) (idx : List Nat) (hn : idx.Nodup) (h : idx.map (os[·]?) = os'.map some) : St P H0 H os' := by
 have hmem : ∀ o ∈ os', o ∈ os := by
  intro o ho
  have : some o ∈ idx.map (os[·]?) := by rw [h]; exact gf ho
  obtain ⟨i, _, hi⟩ := dE.1 this
  exact dO hi
 refine ⟨hS.len, hS.old, fun o ho => hS.own o (hmem o ho), fun o ho => hS.new o (hmem o ho), ?_⟩
 have hpw := eu.1 hS.sep
 rw [eu]
 intro i j hi hj hij
 have hl : idx.length = os'.length := by simpa using congrArg List.length h
 have key : ∀ i (hi : i < os'.length), ∃ hk : idx[i]'(by omega) < os.length, os[idx[i]'(by omega)] = os'[i] := by
  intro i hi
  have h1 : (idx.map (os[·]?))[i]? = (os'.map some)[i]? := by rw [h]
  rw [eH, eH, dq (by omega), dq hi] at h1
  simp only [dM, dF] at h1
  exact du.1 h1
 obtain ⟨h1, e1⟩ := key i hi
 obtain ⟨h2, e2⟩ := key j hj
 have hne : idx[i]'(by omega) ≠ idx[j]'(by omega) := by
  have := eu.1 hn i j (by omega) (by omega) hij
  exact this
 rcases fO hne with hh | hh
 ·have := hpw _ _ h1 h2 hh
  rw [e1, e2] at this
  exact this
 ·have := hpw _ _ h2 h1 hh
  rw [e1, e2] at this
  intro B hb hb'
  exact this B hb' hb
theorem St.frame {H1 : Heap} {H0 : Base} {ls rest ls' : List Ob} (hS : St P H0 H (ls ++ rest)) (h1 : St P ⟨H, pM ls⟩ H1 ls') : St P H0 H1 (ls' ++ rest) := by
 have hls : St P H0 H ls := hS.sub (List.sublist_append_left ..)
 have h2 := hls.bB h1
 have hsep := fK.1 hS.sep
 have hkeep : ∀ o ∈ rest, ∀ B, kO o.v = some B → iQ H1 B = iQ H B := by
  intro o ho B hB
  have hlt := (hS.own o (gq _ ho)).lt hB
  exact h1.old B hlt fun ⟨x, hx, hxb⟩ => hsep.2.2 x hx o ho B hxb hB
 refine ⟨h2.len, h2.old, ?_, ?_, ?_⟩
 ·intro o ho
  rcases dI.1 ho with ho | ho
  ·exact h2.own o ho
  ·exact (hS.own o (gq _ ho)).ae (hkeep o ho)
 ·intro o ho B hB
  rcases dI.1 ho with ho | ho
  ·exact h2.new o ho B hB
  ·exact hS.new o (gq _ ho) B hB
 ·rw [fK]
  refine ⟨h2.sep, hsep.2.1, ?_⟩
  intro x hx y hy B hb hb'
  rcases h1.new x hx B hb with hh | ⟨z, hz, hzb⟩
  ·have := (hS.own y (gq _ hy)).lt hb'
   have hh : H.length ≤ B := hh
   omega
  ·exact hsep.2.2 z hz y hy B hzb hb'
theorem b7P (t : TypeId) (k : IntKind) (n : Int) : unV P .neg t (.int k n) = some (.int k (k.wrap (0 - n))) := rfl
theorem b1C (ops : Array Oper) (d : Option Tmp) (op : Op) (ty : TypeId) (pos : String) (af : Array Edge) (j : Nat) (b : Bool) (l : List Value) (H' : Heap) (v : Value) :
 rdW P ops (some ⟨d, op, ty, pos, af, some (j, b)⟩) (some (l, H', v)) H = uD (xU ops j) l b (lS P ⟨d, op, ty, pos, af, some (j, b)⟩ l H fun v' _ => v' = v) True := by
 rw [← sF ops l d op ty pos af]
 unfold rdW
 split
 ·rename_i h1 h2
  cases h1; cases h2
  split
  ·rename_i h; simp [h]
  ·rename_i h; simp [h]
 ·rename_i h
  exact (h _ _ _ _ rfl rfl).elim
theorem b2H (t t2 : TypeId) (cx cy : Bool) (k : IntKind) (a b : Int) (K : Value → Prop) : kV P .and t t2 cx cy (.int k a) (.int k b) K = jQ (kS P .and t t2 cx cy (.int k a) (.int k b)) K := by
 have h : (if k = k then mI .and k a b else none) = none := by split <;> rfl
 unfold kV; dsimp only
 rw [h]
theorem b6S (t t2 : TypeId) (cx cy : Bool) (k : IntKind) (a b : Int) (K : Value → Prop) : kV P .or t t2 cx cy (.int k a) (.int k b) K = jQ (kS P .or t t2 cx cy (.int k a) (.int k b)) K := by
 have h : (if k = k then mI .or k a b else none) = none := by split <;> rfl
 unfold kV; dsimp only
 rw [h]
theorem b1G (t t2 : TypeId) (cx cy : Bool) (k : IntKind) (a b : Int) (K : Value → Prop) : kV P .xor t t2 cx cy (.int k a) (.int k b) K = jQ (kS P .xor t t2 cx cy (.int k a) (.int k b)) K := by
 have h : (if k = k then mI .xor k a b else none) = none := by split <;> rfl
 unfold kV; dsimp only
 rw [h]
theorem a5j (t t2 : TypeId) (cx cy : Bool) (k : IntKind) (a b : Int) (K : Value → Prop) : kV P .andNot t t2 cx cy (.int k a) (.int k b) K = jQ (kS P .andNot t t2 cx cy (.int k a) (.int k b)) K := by
 have h : (if k = k then mI .andNot k a b else none) = none := by split <;> rfl
 unfold kV; dsimp only
 rw [h]
theorem b2y (t t2 : TypeId) (cx cy : Bool) (k k' : IntKind) (a b : Int) (K : Value → Prop) : kV P .shl t t2 cx cy (.int k a) (.int k' b) K = jQ (kS P .shl t t2 cx cy (.int k a) (.int k' b)) K := by
 have h : (if k = k' then mI .shl k a b else none) = none := by split <;> rfl
 unfold kV; dsimp only
 rw [h]
theorem b1m (t t2 : TypeId) (cx cy : Bool) (k k' : IntKind) (a b : Int) (K : Value → Prop) : kV P .shr t t2 cx cy (.int k a) (.int k' b) K = jQ (kS P .shr t t2 cx cy (.int k a) (.int k' b)) K := by
 have h : (if k = k' then mI .shr k a b else none) = none := by split <;> rfl
 unfold kV; dsimp only
 rw [h]
theorem b3q (op : BinOp) (t t2 : TypeId) (cx cy : Bool) (a b : ByteArray) (K : Value → Prop) : kV P op t t2 cx cy (.string a) (.string b) K = jQ (kS P op t t2 cx cy (.string a) (.string b)) K := rfl
theorem b3k (op : BinOp) (t t2 : TypeId) (cx cy : Bool) (a b : Array Value) (K : Value → Prop) : kV P op t t2 cx cy (.agg a) (.agg b) K = jQ (kS P op t t2 cx cy (.agg a) (.agg b)) K := rfl
theorem b1X (op : BinOp) (t t2 : TypeId) (cx cy : Bool) (a b : Bool) (K : Value → Prop) : kV P op t t2 cx cy (.bool a) (.bool b) K = jQ (kS P op t t2 cx cy (.bool a) (.bool b)) K := rfl
theorem b5i (n : Int) (h1 : -9223372036854775808 ≤ n) (h2 : n < 9223372036854775808) : IntKind.wrap .i64 n = n := by
 show (if (true && decide (n % 18446744073709551616 ≥ 9223372036854775808)) = true then n % 18446744073709551616 - 18446744073709551616 else n % 18446744073709551616) = n
 simp only [gK, decide_eq_true_eq]
 omega
theorem b9r (n : Int) (h1 : -128 ≤ n) (h2 : n < 128) : IntKind.wrap .i8 n = n := by
 show (if (true && decide (n % 256 ≥ 128)) = true then n % 256 - 256 else n % 256) = n
 simp only [gK, decide_eq_true_eq]
 omega
theorem pK (n : Int) (h1 : 0 ≤ n) (h2 : n < 18446744073709551616) : IntKind.wrap .u64 n = n := by
 show (if (false && decide (n % 18446744073709551616 ≥ 9223372036854775808)) = true then n % 18446744073709551616 - 18446744073709551616 else n % 18446744073709551616) = n
 simp only [fw]
 rw [if_neg (by simp)]
 omega
theorem b5V (n : Int) (h1 : 0 ≤ n) (h2 : n < 4294967296) : IntKind.wrap .u32 n = n := by
 show (if (false && decide (n % 4294967296 ≥ 2147483648)) = true then n % 4294967296 - 4294967296 else n % 4294967296) = n
 simp only [fw]
 rw [if_neg (by simp)]
 omega
theorem b4a (n : Int) (h1 : 0 ≤ n) (h2 : n < 65536) : IntKind.wrap .u16 n = n := by
 show (if (false && decide (n % 65536 ≥ 32768)) = true then n % 65536 - 65536 else n % 65536) = n
 simp only [fw]
 rw [if_neg (by simp)]
 omega
theorem b8J (n : Int) (h1 : 0 ≤ n) (h2 : n < 256) : IntKind.wrap .u8 n = n := by
 show (if (false && decide (n % 256 ≥ 128)) = true then n % 256 - 256 else n % 256) = n
 simp only [fw]
 rw [if_neg (by simp)]
 omega
end
end Go.Ds
namespace Go.Ds
noncomputable section
variable {P : Program}
def zT (P : Program) (t : TypeId) : List Field := match P.underlying t with | some (.struct fs) => fs.toList | _ => []
def eqC : Value → Value → Bool
 | .int _ a, .int _ b => a == b
 | .bool a, .bool b => a == b
 | .string a, .string b => decide (a = b)
 | _, _ => false
def okC (P : Program) (t : TypeId) (x y : Value) : Bool := match P.underlying t with
 | some (.int _) => (match x, y with | .int k _, .int k' _ => decide (k = k') | _, _ => false)
 | some .bool => (match x, y with | .bool _, .bool _ => true | _, _ => false)
 | some .string => (match x, y with | .string _, .string _ => true | _, _ => false)
 | _ => false
theorem eq1 {t : TypeId} {x y : Value} (d : Nat) (h : okC P t x y = true) : iL P (Op.equalIn (d + 1) t x y) = some (eqC x y) := by
 unfold okC at h
 split at h
 ·rename_i k0 hu
  split at h
  ·rename_i k a k' b
   have hk : k = k' := by simpa using h
   subst hk
   rw [Op.equalIn, iK, jP hu, cW]
   simp only [if_true]
   rfl
  ·cases h
 ·rename_i hu
  split at h
  ·rw [Op.equalIn, iK, jP hu, cW]; rfl
  ·cases h
 ·rename_i hu
  split at h
  ·rename_i a b
   rw [Op.equalIn, iK, jP hu, cW]
   show some (a == b) = some (decide (a = b))
   rw [a1v]
   congr 1
   simp [eq_comm]
  ·cases h
 ·cases h
theorem b9O {t : TypeId} {x y v : Value} {cs : Array Value} {off : Nat} (h : okC P t x y = true) (hc : cs[off]? = some v) : iL P (part t cs off) = some v := by
 have ha : iL P (isAgg t) = some false := by
  unfold isAgg
  unfold okC at h
  split at h
  ·rename_i hu; rw [iK, jP hu, cW]; rfl
  ·rename_i hu; rw [iK, jP hu, cW]; rfl
  ·rename_i hu; rw [iK, jP hu, cW]; rfl
  ·cases h
 unfold part
 rw [iK, ha, cW]
 simp only [dR, if_false, hc]
 rfl
theorem a1M {t : TypeId} {xs ys : List Value} (d : Nat) (hu : P.underlying t = some (.struct (zT P t).toArray)) (hst : P.stoodInHeld t = false)
 (hf : ((zT P t).map fun f => (f.name != "_", f.offset)) = (List.range xs.length).map fun j => (true, j)) (hy : ys.length = xs.length)
 (hok : ((zT P t).all fun f => okC P f.type (xs.getD f.offset undef) (ys.getD f.offset undef)) = true) :
 iL P (Op.equalIn (d + 2) t (.agg xs.toArray) (.agg ys.toArray)) = some ((List.range xs.length).all fun j => eqC (xs.getD j undef) (ys.getD j undef)) := by
 rw [dr] at hok
 have hmem : ∀ f ∈ zT P t, (f.name != "_") = true ∧ f.offset < xs.length := fun f hf' => by
  have : (f.name != "_", f.offset) ∈ (List.range xs.length).map fun j => (true, j) := by rw [← hf]; exact gf hf'
  obtain ⟨j, hj, he⟩ := dE.1 this
  simp only [gI] at he
  exact ⟨he.1.symm, by rw [← he.2]; exact dC.1 hj⟩
 rw [b6s hu hst (fun f => eqC (xs.getD f.offset undef) (ys.getD f.offset undef)) ?_]
 ·congr 1
  have h1 : (zT P t).all (fun f => eqC (xs.getD f.offset undef) (ys.getD f.offset undef)) = ((zT P t).map fun f => (f.name != "_", f.offset)).all fun p => eqC (xs.getD p.2 undef) (ys.getD p.2 undef) := by
   rw [List.all_map]; rfl
  rw [h1, hf, List.all_map]
  rfl
 ·intro f hf'
  obtain ⟨h1, h2⟩ := hmem f hf'
  refine ⟨by simpa using h1, ?_⟩
  have hx : xs.toArray[f.offset]? = some (xs.getD f.offset undef) := by
   rw [eZ, dc, dq h2]; rfl
  have hy' : ys.toArray[f.offset]? = some (ys.getD f.offset undef) := by
   rw [eZ, dc, dq (by omega)]; rfl
  rw [iK, b9O (hok f hf') hx, cW, iK, b9O (hok f hf') hy', cW]
  exact eq1 d (hok f hf')
theorem yD {t t2 : TypeId} {cx cy : Bool} {xs ys : List Value} (hu : P.underlying t = some (.struct (zT P t).toArray)) (hst : P.stoodInHeld t = false) (hg : P.eqGuardType P.depth t = false)
 (hf : ((zT P t).map fun f => (f.name != "_", f.offset)) = (List.range xs.length).map fun j => (true, j)) (hy : ys.length = xs.length)
 (hok : ((zT P t).all fun f => okC P f.type (xs.getD f.offset undef) (ys.getD f.offset undef)) = true) (hx : xs.all iX = true) (hys : ys.all iX = true) :
 kS P .eql t t2 cx cy (.agg xs.toArray) (.agg ys.toArray) = some (.bool ((List.range xs.length).all fun j => eqC (xs.getD j undef) (ys.getD j undef))) ∧
 kS P .neq t t2 cx cy (.agg xs.toArray) (.agg ys.toArray) = some (.bool (!((List.range xs.length).all fun j => eqC (xs.getD j undef) (ys.getD j undef)))) :=
 ⟨b5C _ hg hx hys (a1M 9998 hu hst hf hy hok), b6c _ hg hx hys (a1M 9998 hu hst hf hy hok)⟩
theorem c1y {t : TypeId} {k : IntKind} (hu : P.underlying t = some (.struct (zT P t).toArray)) (hst : P.stoodInHeld t = false)
 (hf : ((zT P t).map fun f => (f.name != "_", f.offset)) = (List.range 2).map fun j => (true, j))
 (hok : ∀ a b c d : Int, ((zT P t).all fun f => okC P f.type ([Value.int k a, .int k b].getD f.offset undef) ([Value.int k c, .int k d].getD f.offset undef)) = true) (a b : Int × Int) :
 iL P (Op.equal t (.agg #[.int k a.1, .int k a.2]) (.agg #[.int k b.1, .int k b.2])) = some (decide (b = a)) := by
 have hmd : Op.maxDepth = 9998 + 2 := by decide
 unfold Op.equal
 rw [hmd, a1M (xs := [.int k a.1, .int k a.2]) (ys := [.int k b.1, .int k b.2]) 9998 hu hst hf rfl (hok _ _ _ _)]
 congr 1
 show ((a.1 == b.1) && ((a.2 == b.2) && true)) = _
 rw [ey]
 simp only [fp, cX, beq_iff_eq, decide_eq_true_eq, Prod.ext_iff]
 constructor
 ·rintro ⟨h1, h2⟩; exact ⟨h1.symm, h2.symm⟩
 ·rintro ⟨h1, h2⟩; exact ⟨h1.symm, h2.symm⟩
theorem c2A {k : IntKind} (a : Int × Int) : Instr.sameBits 10000 (.agg #[.int k a.1, .int k a.2]) (.agg #[.int k a.1, .int k a.2]) = true := by
 show ((2 : Nat) == 2 && ([(Value.int k a.1, Value.int k a.1), (Value.int k a.2, Value.int k a.2)]).all fun (x, y) => Instr.sameBits 9999 x y) = true
 have h : ∀ n, Instr.sameBits 9999 (.int k n) (.int k n) = true := fun n => by
  show (k == k && n == n) = true
  cases k <;> simp <;> rfl
 simp [h]
section
variable {H : Heap} {α : Type} {n : Nat} {cel : α → List Value} {v : Value} {xs : List α}
theorem Sl.aR (h : Sl n cel H v xs) (o : Oper) (l : List Value) (H' : Heap) (k : IntKind) (a : Int) (K : Value → Heap → Prop) (h0 : 0 < xs.length) (h1 : 0 ≤ a) (h2 : a ≤ xs.length) :
 oX P o l H' (some n) v none (some (.int k a)) K = oN (mK v n 0 a.toNat) fun v => K v H' := by
 obtain ⟨m, rfl⟩ : ∃ m, n = m + 1 := ⟨n - 1, by have := h.pos; omega⟩
 exact h.rd.aR (iI h.hc xs) o l H' k a K h0 h1 h2
theorem Sl.aW (h : Sl n cel H v xs) (o : Oper) (l : List Value) (H' : Heap) (k : IntKind) (a : Int) (K : Value → Heap → Prop) (h0 : 0 < xs.length) (h1 : 0 ≤ a) (h2 : a ≤ xs.length) :
 oX P o l H' (some n) v (some (.int k a)) none K = oN (mK v n a.toNat (xs.length - a).toNat) fun v => K v H' := by
 obtain ⟨m, rfl⟩ : ∃ m, n = m + 1 := ⟨n - 1, by have := h.pos; omega⟩
 rw [h.rd.aW (iI h.hc xs) o l H' k a K h0 h1 h2]
 congr 2
 omega
theorem Sl.sub (h : Sl n cel H v xs) (lo k : Nat) (hk : lo + k ≤ xs.length) (h0 : 0 < xs.length) : Sl n cel H (mK v n lo k) ((xs.drop lo).take k) := by
 refine ⟨?_, h.hc, h.pos⟩
 have hne : xs.flatMap cel ≠ [] := fun e => by
  have := iI h.hc xs
  rw [e, dA] at this
  have hp := ij h0 h.pos
  omega
 have := h.rd.sub lo k (by rw [iI h.hc, ← fi]; exact dN _ hk) hne
 rw [sC h.hc, a1h h.hc] at this
 exact this
theorem Sl.bP (h : Sl n cel H v xs) (k : Nat) (hk : k ≤ xs.length) (h0 : 0 < xs.length) : Sl n cel H (mK v n 0 k) (xs.take k) := by
 simpa using h.sub 0 k (by omega) h0
theorem Sl.cG (h : Sl n cel H v xs) (lo : Nat) (hk : lo ≤ xs.length) (h0 : 0 < xs.length) : Sl n cel H (mK v n lo (xs.length - lo)) (xs.drop lo) := by
 have := h.sub lo (xs.length - lo) (by omega) h0
 rwa [List.take_of_length_le (by simp)] at this
end
def a8I (P : Program) (ts : Array TypeId) (ty : TypeId) (cx cy : Bool) (x y : Value) : Option Value := (kL P ⟨none, .call { callee := .builtin .max, args := #[oM cx 0 x, oM cy 1 y], argTypes := ts }, ty, "", #[], none⟩ [x, y] .nil).map (·.1)
theorem b9l (d : Option Tmp) (ty : TypeId) (pos : String) (af : Array Edge) (g : Option (Nat × Bool)) (ts : Array TypeId) (x y : Operand) (l : List Value) (H : Heap) (K : Value → Heap → Prop) :
 lS P ⟨d, .call { callee := .builtin .max, args := #[x, y], argTypes := ts }, ty, pos, af, g⟩ l H K = jG x l fun x' => jG y l fun y' => jQ (a8I P ts ty (lC x) (lC y) x' y') fun v => K v H := by
 have h : opD P ⟨d, .call { callee := .builtin .max, args := #[x, y], argTypes := ts }, ty, pos, af, g⟩ l H = (a8I P ts ty (lC x) (lC y) (ev l x) (ev l y)).map fun v => (v, H) :=
  mT (P := P) ⟨d, .call { callee := .builtin .max, args := #[x, y], argTypes := ts }, ty, pos, af, g⟩ ⟨none, .call { callee := .builtin .max, args := #[oM (lC x) 0 (ev l x), oM (lC y) 1 (ev l y)], argTypes := ts }, ty, "", #[], none⟩ l [ev l x, ev l y] H
   (by cases x <;> cases y <;> rfl) (by cases x <;> cases y <;> kernel_rfl)
 have h2 : jW ((a8I P ts ty (lC x) (lC y) (ev l x) (ev l y)).map fun v => (v, H)) K = jQ (a8I P ts ty (lC x) (lC y) (ev l x) (ev l y)) fun v => K v H := by cases a8I P ts ty (lC x) (lC y) (ev l x) (ev l y) <;> rfl
 simp only [lS, h, jG, Op.operands, Call.operands, h2]
 simp [and_assoc]
theorem b6D (ts : Array TypeId) (ty : TypeId) (cx cy : Bool) (a b : Int) : a8I P ts ty cx cy (.int .i64 a) (.int .i64 b) = some (.int .i64 (max a b)) := by
 have h : a8I P ts ty cx cy (.int .i64 a) (.int .i64 b) = some (.int .i64 (if b > a then b else a)) := by cases cx <;> cases cy <;> kernel_rfl
 rw [h]
 congr 2
 split <;> omega
def a9F (P : Program) (ts : Array TypeId) (ty : TypeId) (cx cy : Bool) (x y : Value) : Option Value := (kL P ⟨none, .call { callee := .builtin .min, args := #[oM cx 0 x, oM cy 1 y], argTypes := ts }, ty, "", #[], none⟩ [x, y] .nil).map (·.1)
theorem b8E (d : Option Tmp) (ty : TypeId) (pos : String) (af : Array Edge) (g : Option (Nat × Bool)) (ts : Array TypeId) (x y : Operand) (l : List Value) (H : Heap) (K : Value → Heap → Prop) :
 lS P ⟨d, .call { callee := .builtin .min, args := #[x, y], argTypes := ts }, ty, pos, af, g⟩ l H K = jG x l fun x' => jG y l fun y' => jQ (a9F P ts ty (lC x) (lC y) x' y') fun v => K v H := by
 have h : opD P ⟨d, .call { callee := .builtin .min, args := #[x, y], argTypes := ts }, ty, pos, af, g⟩ l H = (a9F P ts ty (lC x) (lC y) (ev l x) (ev l y)).map fun v => (v, H) :=
  mT (P := P) ⟨d, .call { callee := .builtin .min, args := #[x, y], argTypes := ts }, ty, pos, af, g⟩ ⟨none, .call { callee := .builtin .min, args := #[oM (lC x) 0 (ev l x), oM (lC y) 1 (ev l y)], argTypes := ts }, ty, "", #[], none⟩ l [ev l x, ev l y] H
   (by cases x <;> cases y <;> rfl) (by cases x <;> cases y <;> kernel_rfl)
 have h2 : jW ((a9F P ts ty (lC x) (lC y) (ev l x) (ev l y)).map fun v => (v, H)) K = jQ (a9F P ts ty (lC x) (lC y) (ev l x) (ev l y)) fun v => K v H := by cases a9F P ts ty (lC x) (lC y) (ev l x) (ev l y) <;> rfl
 simp only [lS, h, jG, Op.operands, Call.operands, h2]
 simp [and_assoc]
theorem b5E (ts : Array TypeId) (ty : TypeId) (cx cy : Bool) (a b : Int) : a9F P ts ty cx cy (.int .i64 a) (.int .i64 b) = some (.int .i64 (min a b)) := by
 have h : a9F P ts ty cx cy (.int .i64 a) (.int .i64 b) = some (.int .i64 (if b < a then b else a)) := by cases cx <;> cases cy <;> kernel_rfl
 rw [h]
 congr 2
 split <;> omega
section
variable {H : Heap}
def Var (H : Heap) (A n : Nat) (cs : List Value) : Prop := n = cs.length ∧ ∃ ty rw lo ver, iQ H A = some (.cells cs ty rw lo ver) ∧ lo ≤ cs.length
theorem Var.ae {H' : Heap} {A n : Nat} {cs : List Value} (h : Var H A n cs) (hk : ∀ B, B < H.length → iQ H' B = iQ H B) : Var H' A n cs := by
 obtain ⟨h1, ty, rw, lo, ver, h2, h3⟩ := h
 exact ⟨h1, ty, rw, lo, ver, by rw [hk A (jH h2), h2], h3⟩
theorem Var.ld {A n : Nat} {cs : List Value} (h : Var H A n cs) (s : Option Nat) (off : Nat) : oS (some false) s H (ptr A off n) = cs[off]? := by
 obtain ⟨rfl, ty, rw, lo, ver, h1, h2⟩ := h
 simp only [oS, jA, h1]
 by_cases h : off < cs.length
 ·rw [if_pos (by simp; omega)]
  simp only [cW]
  rw [dS (by omega), dH]
  simp
 ·rw [if_neg (by simp; omega), dY (by omega)]
  rfl
theorem Var.ai {A n : Nat} {cs : List Value} (h : Var H A n cs) (m off : Nat) : oS (some true) (some m) H (ptr A off n) = if off + m ≤ cs.length then some (.agg ((cs.drop off).take m).toArray) else none := by
 obtain ⟨rfl, ty, rw, lo, ver, h1, h2⟩ := h
 simp only [oS, jA, h1, cW]
 by_cases h : off + m ≤ cs.length
 ·rw [if_pos (by simp; omega), if_pos h]
  rfl
 ·rw [if_neg (by simp; omega), if_neg h]
  rfl
theorem St.var {P : Program} {H0 : Base} {os : List Ob} (hS : St P H0 H os) (i : Nat) {A n : Nat} {cs : List Value} (ho : os[i]? = some ⟨ptr A 0 n, 0, cs⟩) : Var H A n cs := by
 obtain ⟨h1, ty, lo, ver, h2, h3⟩ := hS.cell i ho
 exact ⟨h1, ty, true, lo, ver, h2, h3⟩
theorem St.va {H0 : Heap} {os : List Ob} (hS : St P H0 H os) {A n : Nat} {cs : List Value} (h : Var H0 A n cs) : Var H A n cs := h.ae hS.ae
end
theorem qT {P : Program} (t t2 : TypeId) (cx cy : Bool) (u x : UInt8) : kS P .add t t2 cx cy (.string ⟨#[u]⟩) (.string ⟨#[x]⟩) = some (.string ⟨#[u, x]⟩) := by
 rw [a0G _ _ _ _ _ _ (by show 1 + 1 < 9223372036854775808; decide)]
 rfl
theorem rN {P : Program} {H : Heap} {s t : TypeId} {v : Value} {n : Int} (h : RdAt H v 1 [.int .u8 n]) (hs : kR P s = true) (ht : nS P t = true) (hbt : kR P t = false) (h0 : 0 ≤ n) (h1 : n < 256) (K : Value → Heap → Prop) :
 rE P s t H v K = K (.string ⟨#[UInt8.ofNat n.toNat]⟩) H := by
 obtain ⟨m, rfl⟩ : ∃ m : Nat, n = Int.ofNat m := ⟨n.toNat, by simp [eX h0]⟩
 have hm : m < 256 := by have : (m : Int) < 256 := h1; omega
 rcases h with ⟨_, h⟩ | ⟨A, i, e, row, ty, rw, lo, ver, k, g1, g2, g3, g4, g5, g6, rfl⟩
 ·cases h
 have hk : k = 1 := by simp at g6; omega
 subst hk
 have hc : jA H A i e 1 = some [.int .u8 (Int.ofNat m)] := by
  simp only [jA, g1]
  rw [if_pos (by simp at g4 ⊢; omega)]
  exact congrArg some g5
 have hb : mD [.int .u8 (Int.ofNat m)] = some ⟨#[UInt8.ofNat m]⟩ := by simp [mD, a0n, xL, hm]
 have hd : opD P ⟨none, .convert s t (.const (.slice (some ⟨A, i, some e⟩) 1 1)), t, "", #[], none⟩ [] H = some (.string ⟨#[UInt8.ofNat m]⟩, H) := by
  have hf : flat (.slice (some ⟨A, i, some e⟩) 1 1) = false := rfl
  simp only [opD, ev, hf, hs, ht, hc, hb, fw, dR, if_false, Bool.and_self, if_true, cW, dM]
 unfold rE
 rw [hd]
 apply propext
 constructor
 ·rintro ⟨v, H1, h2, h3⟩
  injection (cV h2) with e1 e2
  subst e1 e2
  exact h3
 ·intro h3
  exact ⟨_, _, rfl, h3⟩
theorem a4T {P : Program} {t : TypeId} {n : Nat} {elem : TypeId} {size : Nat} (ha : P.underlying t = some (.array n elem)) (hs : iD P elem = some size) (A i e : Nat) (k : IntKind) (j : Int) (h0 : 0 ≤ j) (h1 : j < n) :
 vV (iS P t) P t (ptr A i e) (.int k j) = some (ptr A (i + j.toNat * size) e) := by
 have hn : iS P t = none := by simp [iS, iF, ha]
 rw [hn]
 simp only [vV, a2f, ha, ptr, hs, cW]
 rw [if_pos (by simp [h0, h1])]
end
end Go.Ds
namespace Go.Ds
section
variable {P : Program}
def c1m (inv : List Nat) (e : Edge) : Edge := { e with on := inv.getD e.on 0 }
def yE (inv : List Nat) (o : Oper) : Oper := { o with after := o.after.map (c1m inv), guard := o.guard.map fun g => (inv.getD g.1 0, g.2) }
def jY (π inv : List Nat) (ops : Array Oper) : Array Oper := (π.map fun i => yE inv (ops.getD i default)).toArray
def a8t (π inv : List Nat) (ops : Array Oper) : Bool :=
 decide (π.length = ops.size) && decide (inv.length = ops.size) && (List.range ops.size).all (fun i => decide (π.getD i 0 < ops.size) && decide (inv.getD i 0 < ops.size) && decide (inv.getD (π.getD i 0) 0 = i) && decide (π.getD (inv.getD i 0) 0 = i)) &&
 ops.toList.all fun o => o.after.toList.all (fun e => decide (e.on < ops.size)) && (match o.guard with | some g => decide (g.1 < ops.size) | none => true)
structure Perm (π inv : List Nat) (ops : Array Oper) : Prop where
 len : π.length = ops.size
 pi : ∀ i, i < ops.size → π.getD i 0 < ops.size
 iv : ∀ i, i < ops.size → inv.getD i 0 < ops.size
 ip : ∀ i, i < ops.size → inv.getD (π.getD i 0) 0 = i
 pv : ∀ i, i < ops.size → π.getD (inv.getD i 0) 0 = i
 edge : ∀ (i : Nat) (o : Oper), ops[i]? = some o → ∀ e ∈ o.after, e.on < ops.size
 guard : ∀ (i : Nat) (o : Oper) (g : Nat × Bool), ops[i]? = some o → o.guard = some g → g.1 < ops.size
theorem b7w {π inv : List Nat} {ops : Array Oper} (h : a8t π inv ops = true) : Perm π inv ops := by
 unfold a8t at h
 simp only [cX, decide_eq_true_eq, dr, dC] at h
 obtain ⟨⟨⟨h1, h2⟩, h3⟩, h4⟩ := h
 refine ⟨h1, fun i hi => (h3 i hi).1.1.1, fun i hi => (h3 i hi).1.1.2, fun i hi => (h3 i hi).1.2, fun i hi => (h3 i hi).2, fun i o ho e he => ?_, fun i o g ho hg => ?_⟩
 ·exact (h4 o (dO (i := i) (by simpa using ho))).1 e (by simpa using he)
 ·have := (h4 o (dO (i := i) (by simpa using ho))).2
  rw [hg] at this
  simpa using this
variable {π inv : List Nat} {ops : Array Oper}
theorem a5G (p : Nat) : (jY π inv ops)[p]? = (π[p]?).map fun i => yE inv (ops.getD i default) := by
 simp [jY]
theorem qN (D : Perm π inv ops) {p i : Nat} {o : Oper} (hp : p < ops.size) (hi : π.getD p 0 = i) (ho : ops[i]? = some o) : (jY π inv ops)[p]? = some (yE inv o) := by
 rw [a5G]
 have h1 : π[p]? = some i := by
  rw [dc] at hi
  rw [dq (by rw [D.len]; exact hp)] at hi ⊢
  simpa using hi
 rw [h1]
 simp only [dM]
 rw [dW, ho]
 rfl
theorem pS (D : Perm π inv ops) : (jY π inv ops).size = ops.size := by simp [jY, D.len]
theorem a4R (D : Perm π inv ops) (tmps : Array Value) {j : Nat} (hj : j < ops.size) : yielded (jY π inv ops) tmps (inv.getD j 0) = yielded ops tmps j := by
 have ho : ops[j]? = some ops[j] := dg.2 ⟨hj, rfl⟩
 unfold yielded
 rw [qN D (D.iv j hj) (D.pv j hj) ho, ho]
 rfl
theorem a7h (D : Perm π inv ops) (tmps : Array Value) {i : Nat} {o : Oper} (ho : ops[i]? = some o) : Region.wanted (yE inv o) (yielded (jY π inv ops) tmps) = Region.wanted o (yielded ops tmps) := by
 unfold Region.wanted
 have e : (yE inv o).guard = o.guard.map fun g => (inv.getD g.1 0, g.2) := rfl
 rw [e]
 cases hg : o.guard with
 | none => rfl
 | some g =>
   simp only [dM]
   rw [a4R D tmps (D.guard i o g ho hg)]
theorem b7p (ro : Option Nat) (ρ : Operand → Value) (o : Oper) : (yE inv o).semAt ro ρ = o.semAt ro ρ := by
 obtain ⟨dst, op, type, pos, after, guard⟩ := o
 rfl
theorem b2b (w : World) (ρ : Operand → Value) (o : Oper) : (yE inv o).about P w ρ = o.about P w ρ := by
 obtain ⟨dst, op, type, pos, after, guard⟩ := o
 rfl
theorem b6U (F : Fence) (n : Nat) (o : Oper) (a : Act) (next : Act → World → Prop) (Q : Exit → Act → World → Prop) (r : Result Next) : (yE inv o).uponIn F n P a next Q r = o.uponIn F n P a next Q r := by
 obtain ⟨dst, op, type, pos, after, guard⟩ := o
 cases r with
 | ok x w => cases x <;> rfl
 | halt x w => cases x <;> rfl
theorem b1r (D : Perm π inv ops) (F : Fence) (n : Nat) (Q : Exit → Act → World → Prop) {i : Nat} (hi : i < ops.size) (K : Act → World → Prop) (a : Act) (w : World) :
 wpOpIn F n P (jY π inv ops) Q (inv.getD i 0) K a w = wpOpIn F n P ops Q i K a w := by
 have ho : ops[i]? = some ops[i] := dg.2 ⟨hi, rfl⟩
 unfold wpOpIn
 rw [qN D (D.iv i hi) (D.pv i hi) ho, ho]
 simp only [a7h D a.tmps ho, Oper.wpIn, b2b, b6U, b7p]
 rfl
def c2y (inv : List Nat) (n : Nat) (listed listed' : Array Bool) : Prop := listed.size = n ∧ listed'.size = n ∧ ∀ i, i < n → listed.getD i false = listed'.getD (inv.getD i 0) false
theorem wN (D : Perm π inv ops) {listed listed' : Array Bool} (hc : c2y inv ops.size listed listed') {i : Nat} (hi : i < ops.size) :
 i ∈ Region.ready .any ops listed ↔ inv.getD i 0 ∈ Region.ready .any (jY π inv ops) listed' := by
 have ho : ops[i]? = some ops[i] := dg.2 ⟨hi, rfl⟩
 have ho' := qN D (D.iv i hi) (D.pv i hi) ho
 have hsz := pS D
 obtain ⟨c1, c2, c3⟩ := hc
 constructor
 ·intro h
  obtain ⟨o, h1, h2, h3⟩ := oY c1 h
  rw [ho] at h1
  obtain rfl := cV h1
  refine a0m (by rw [hsz]; exact c2) ho' (by rw [← c3 i hi]; exact h2) ?_
  intro e he hb
  have he' : e ∈ (ops[i]).after.map (c1m inv) := he
  obtain ⟨e0, he0, rfl⟩ := Array.mem_map.1 he'
  have := h3 e0 he0 hb
  show listed'.getD (inv.getD e0.on 0) false = true
  rw [← c3 _ (D.edge i _ ho e0 he0)]
  exact this
 ·intro h
  obtain ⟨o, h1, h2, h3⟩ := oY (by rw [hsz]; exact c2) h
  rw [ho'] at h1
  obtain rfl := cV h1
  refine a0m c1 ho (by rw [c3 i hi]; exact h2) ?_
  intro e he hb
  have := h3 (c1m inv e) (Array.mem_map.2 ⟨e, he, rfl⟩) hb
  rw [c3 _ (D.edge i _ ho e he)]
  exact this
theorem b3M (D : Perm π inv ops) (F : Fence) (k : Nat) {Q : Exit → Act → World → Prop} : ∀ (fuel : Nat) (listed listed' : Array Bool) (a : Act) (w : World), c2y inv ops.size listed listed' →
 wpAnyIn F k P .any (jY π inv ops) Q fuel listed' a w → wpAnyIn F k P .any ops Q fuel listed a w := by
 have hsz := pS D
 have nil1 : ∀ {listed listed' : Array Bool}, c2y inv ops.size listed listed' → (Region.ready .any ops listed = [] ↔ Region.ready .any (jY π inv ops) listed' = []) := by
  intro listed listed' hc
  constructor
  ·intro h
   cases hr : Region.ready .any (jY π inv ops) listed' with
   | nil => rfl
   | cons p r =>
     exfalso
     have hp : p ∈ Region.ready .any (jY π inv ops) listed' := by rw [hr]; exact eE ..
     obtain ⟨o, h1, _, _⟩ := oY (by rw [hsz]; exact hc.2.1) hp
     have hpn : p < ops.size := by rw [← hsz]; exact (dg.1 h1).1
     have := (wN D hc (D.pi p hpn)).2 (by rw [D.ip p hpn]; exact hp)
     rw [h] at this
     cases this
  ·intro h
   cases hr : Region.ready .any ops listed with
   | nil => rfl
   | cons i r =>
     exfalso
     have hi : i ∈ Region.ready .any ops listed := by rw [hr]; exact eE ..
     obtain ⟨o, h1, _, _⟩ := oY hc.1 hi
     have := (wN D hc (dg.1 h1).1).1 hi
     rw [h] at this
     cases this
 intro fuel
 induction fuel with
 | zero =>
   intro listed listed' a w hc h
   exact ⟨(nil1 hc).2 h.1, h.2⟩
 | succ fuel ih =>
   intro listed listed' a w hc h
   refine ⟨fun hn => h.1 ((nil1 hc).1 hn), fun i hi => ?_⟩
   obtain ⟨o, h1, _, _⟩ := oY hc.1 hi
   have hin := (dg.1 h1).1
   have h2 := h.2 _ ((wN D hc hin).1 hi)
   rw [b1r D F k Q hin] at h2
   refine wpOpIn_mono (fun a' w' h3 => ih _ _ a' w' ⟨by simpa using hc.1, by simpa using hc.2.1, fun j hj => ?_⟩ h3) h2
   have e1 := sK (listed := listed) (i := i) (by rw [hc.1]; exact hin) j
   have e2 := sK (listed := listed') (i := inv.getD i 0) (by rw [hc.2.1]; exact D.iv i hin) (inv.getD j 0)
   have e3 : (inv.getD j 0 = inv.getD i 0) ↔ j = i := ⟨fun h => by rw [← D.pv j hj, h, D.pv i hin], fun h => by rw [h]⟩
   rw [ey, e1, e2, e3, hc.2.2 j hj]
end
section
variable {P : Program} {H : Heap} {π inv : List Nat} {ops : Array Oper}
theorem Sim.cH (kE : P.follows .mixedOrders = true) {id : Nat} (Dp : Perm π inv ops) {fl : Fl} (D : Draw P fl (jY π inv ops)) {T : Nat → List Value × Heap} {val : Nat → Value} (X : Text P (jY π inv ops) T val)
 (hread : ∀ i m o, (i, m) ∈ mG fl (jY π inv ops) → (jY π inv ops)[i]? = some o → Region.wanted o (iU (jY π inv ops) (T i).1) = true → ∃ H2, opD P o (T i).1 (T m).2 = some (val i, H2)) :
 Sim P (.region id ops true) (T 0).1 (T 0).2 .normal (T ops.size).1 (T ops.size).2 := by
 intro ro k B ρ w a hr hE hl hM hB
 have hsz := pS Dp
 have := a3S D X hread ro k B hr hE hM
 rw [hsz] at this
 exact wpIn_region_any kE (b3M Dp (fe ro) k ops.size _ _ a _ ⟨by simp, by simp, fun i hi => by
  have := Dp.iv i hi
  simp only [dW, Array.getElem?_replicate, hi, this, if_true]⟩ this)
theorem a2R (D : Perm π inv ops) (l : List Value) {j : Nat} (hj : j < ops.size) : iU (jY π inv ops) l (inv.getD j 0) = iU ops l j := by
 have ho : ops[j]? = some ops[j] := dg.2 ⟨hj, rfl⟩
 unfold iU
 rw [qN D (D.iv j hj) (D.pv j hj) ho, ho]
 rfl
theorem wS (D : Perm π inv ops) (l : List Value) {i : Nat} {o : Oper} (ho : ops[i]? = some o) : Region.wanted (yE inv o) (iU (jY π inv ops) l) = Region.wanted o (iU ops l) := by
 unfold Region.wanted
 have e : (yE inv o).guard = o.guard.map fun g => (inv.getD g.1 0, g.2) := rfl
 rw [e]
 cases hg : o.guard with
 | none => rfl
 | some g =>
   simp only [dM]
   rw [a2R D l (D.guard i o g ho hg)]
theorem b0F (o : Oper) (l : List Value) (K : Value → Heap → Prop) : lS P (yE inv o) l H K = lS P o l H K := by
 obtain ⟨dst, op, type, pos, after, guard⟩ := o
 rfl
theorem a3U (D : Perm π inv ops) : ∀ (os : List Oper) (tr : List (List Value × Heap × Value)) (l : List Value) (H : Heap) (K : List (List Value × Heap × Value) → List Value → Heap → Prop), (∀ o ∈ os, ∃ i : Nat, ops[i]? = some o) →
 mF P (jY π inv ops) (os.map (yE inv)) tr l H K = mF P ops os tr l H K
 | [], _, _, _, _, _ => rfl
 | o :: os, tr, l, H, K, h => by
   obtain ⟨i, ho⟩ := h o (by simp)
   have ih := fun tr l H => a3U D os tr l H K fun o ho => h o (by simp [ho])
   rw [ed, mF, mF, wS D l ho]
   have e : (yE inv o).dst = o.dst := rfl
   simp only [b0F, e, ih]
def c1w (o : Option Oper) (os : List Oper) : List Oper := match o with | some o => o :: os | none => os
def sel (os : List Oper) : List Nat → List Oper
 | [] => []
 | i :: π => c1w os[i]? (sel os π)
theorem b9t (os : List Oper) : sel os [] = [] := rfl
theorem a6R (os : List Oper) (i : Nat) (π : List Nat) : sel os (i :: π) = c1w os[i]? (sel os π) := rfl
theorem a3m (o : Oper) (os : List Oper) : c1w (some o) os = o :: os := rfl
theorem a8g (os : List Oper) : ∀ (π : List Nat), (∀ i ∈ π, i < os.length) → sel os π = π.map fun i => os.toArray.getD i default
 | [], _ => rfl
 | i :: π, h => by
   have hi := h i (by simp)
   rw [a6R, a8g os π fun j hj => h j (by simp [hj]), dq hi, a3m, ed]
   congr 1
   simp [dW, hi]
def zL (P : Program) (os : List Oper) (tr : List (List Value × Heap × Value)) (H1 : Heap) (π : List Nat) : List (Nat × Nat) → Prop
 | [] => True
 | (p, m) :: r => rdW P os.toArray (os[π.getD p 0]?) tr[p]? (trH tr[m]? H1) ∧ zL P os tr H1 π r
theorem a9G (os : List Oper) (tr) (H1 : Heap) (π : List Nat) : zL P os tr H1 π [] = True := rfl
theorem a5B (os : List Oper) (tr) (H1 : Heap) (π : List Nat) (p m : Nat) (r : List (Nat × Nat)) : zL P os tr H1 π ((p, m) :: r) = (rdW P os.toArray (os[π.getD p 0]?) tr[p]? (trH tr[m]? H1) ∧ zL P os tr H1 π r) := rfl
theorem a1w {os : List Oper} {tr} {H1 : Heap} {π : List Nat} : ∀ {tab : List (Nat × Nat)}, zL P os tr H1 π tab → ∀ x ∈ tab, rdW P os.toArray (os[π.getD x.1 0]?) tr[x.1]? (trH tr[x.2]? H1)
 | [], _, x, hx => by cases hx
 | (i, m) :: r, h, x, hx => by
   rcases ew.1 hx with rfl | hx
   ·exact h.1
   ·exact a1w h.2 x hx
theorem Wp.ct (kE : P.follows .mixedOrders = true) {id : Nat} {os : List Oper} {l : List Value} {Q : mY} (π inv : List Nat) (fl : Fl) (tab : List (Nat × Nat)) (hp : a8t π inv os.toArray = true)
 (htab : a1C P fl (jY π inv os.toArray) = some tab) (hn : tV (jY π inv os.toArray) tab = true)
 (h : mF P os.toArray (sel os π) [] l H fun tr l1 H1 => Q .normal l1 H1 ∧ zL P os tr H1 π tab) : Wp P (.region id os.toArray true) l H Q := by
 have Dp := b7w hp
 obtain ⟨D, htb⟩ := a2Q htab
 have hsz := pS Dp
 have hmem : ∀ i ∈ π, i < os.length := fun i hi => by
  obtain ⟨p, hpl, hpe⟩ := dV.1 hi
  have := Dp.pi p (by rw [← Dp.len]; exact hpl)
  rw [dc, dq hpl, eW, hpe] at this
  simpa using this
 have hsel : (sel os π).map (yE inv) = (jY π inv os.toArray).toList := by
  rw [a8g os π hmem]
  simp [jY]
 rw [← a3U Dp (sel os π) [] l H _ (fun o ho => by
  rw [a8g os π hmem, dE] at ho
  obtain ⟨i, hi, rfl⟩ := ho
  have := hmem i hi
  exact ⟨i, by simp [dW, this]⟩), hsel] at h
 obtain ⟨T, val, l', H', ext, h0, h1, h2, h3, h4, h5, h6⟩ := uI (jY π inv os.toArray).toList 0 rfl [] l H h
 have hlen : (jY π inv os.toArray).toList.length = os.toArray.size := by rw [fy, hsz]
 rw [hlen] at h1 h2 h3 h4
 have := Sim.cH kE (id := id) Dp D (T := T) (val := val) ⟨fun k hk => by rw [hsz] at hk; simpa using h4 k hk⟩ fun i m o hm ho hw => by
  rw [← htb] at hm
  have hr := a1w h6 (i, m) hm
  have hi : i < os.toArray.size := by rw [← hsz]; exact (dg.1 ho).1
  have hpi := Dp.pi i hi
  have hoo : os.toArray[π.getD i 0]? = some (os.toArray[π.getD i 0]) := dg.2 ⟨hpi, rfl⟩
  have hat := qN (inv := inv) Dp hi rfl hoo
  rw [ho] at hat
  have hat := cV hat
  have hoo' : os[π.getD i 0]? = some (os.toArray[π.getD i 0]) := by rw [← hoo]; simp
  simp only [fc] at hr
  rw [hoo', h3 i hi] at hr
  unfold rdW at hr
  rw [hat, wS Dp _ hoo] at hw
  have hr := hr hw
  have hno : xQ o = true := by
   unfold tV at hn
   have := dr.1 hn (i, m) hm
   simpa [ho] using this
  have hTm : trH ext[m]? H' = (T m).2 ∨ os.toArray.size < m := by
   unfold trH
   by_cases hm2 : m < os.toArray.size
   ·left; rw [h3 m hm2]
   ·by_cases hm3 : m = os.toArray.size
    ·left
     rw [dY (by omega), hm3, h1]
    ·right; omega
  rcases hTm with hTm | hTm
  ·rw [hTm, ← b0F (inv := inv), ← hat] at hr
   obtain ⟨v, H2, h7, h8⟩ := b0x hno hr
   exact ⟨H2, by rw [h7, h8]⟩
  ·exfalso
   rw [htb] at hm
   have := a1x hm
   rw [hsz] at this
   omega
 rw [h0, h1] at this
 exact ⟨_, _, _, this, h5⟩
end
def RA :=
 And.intro @b7b <| And.intro @b3T <| And.intro @b8i <| And.intro @c2p <| And.intro @c1K <| And.intro @b4n <| And.intro @b9F <| And.intro @c2o <| And.intro @b8z <| And.intro @b8o <| And.intro @b5Z <| And.intro @a5Q <| And.intro @b2Q <| And.intro @b5F <| And.intro @b1Y <| And.intro @a9K <| And.intro @a9D <| And.intro @a7F <| And.intro @b4D <| And.intro @b0a <| And.intro @b4T <| And.intro @b4l <| And.intro @b2P <| And.intro @b2s <| And.intro @b9v <| And.intro @b2k <| And.intro @a2s <| And.intro @a2P <| And.intro @a9k <| And.intro @b3F <| And.intro @b2e <| And.intro @b7N <| And.intro @a2N <| And.intro @a2U <| And.intro @b4k <| And.intro @c2v <| And.intro @a7r <| And.intro @a5z <| And.intro @b2V <| And.intro @b4I <| And.intro @a4s <| And.intro @a8V <| And.intro @a9H <| And.intro @a7V <| And.intro @a8c <| And.intro @a7m <| And.intro @a2H <| And.intro @a5c <| And.intro @a2m <| And.intro @b1A <| And.intro @b9l <| And.intro @b8E <| And.intro @b4R <| And.intro @a7J <| And.intro @b2K <| And.intro @b2R <| And.intro @a8u <| And.intro @a8r <| And.intro @a6U <| And.intro @a6m <| And.intro @b5v <| And.intro @b3e <| And.intro @a2E <| And.intro @a9f <| And.intro @a5x <| And.intro @a2O <| And.intro @a7o <| And.intro @a8L <| And.intro @a5Z <| @b4X
def RB :=
 And.intro @b9d <| And.intro @a8n <| And.intro @b0i <| And.intro @b3j <| And.intro @a8F <| And.intro @a6e <| And.intro @a6o <| And.intro @b4o <| And.intro @a7u <| And.intro @a7a <| And.intro @b7A <| And.intro @b3c <| And.intro @a8b <| And.intro @b8Q <| And.intro @b7S <| And.intro @b7c <| And.intro @b7h <| And.intro @a8j <| And.intro @a5S <| And.intro @b8W <| And.intro @c1n <| And.intro @b6M <| And.intro @a5N <| And.intro @a8f <| And.intro @b8F <| And.intro @b7D <| And.intro @b5L <| And.intro @b2S <| And.intro @b2A <| And.intro @b1M <| And.intro @b2m <| And.intro @b1E <| And.intro @b1O <| And.intro @b3i <| And.intro @b3s <| And.intro @b2M <| And.intro @b1l <| And.intro @b3o <| And.intro @b2H <| And.intro @b6S <| And.intro @b1G <| And.intro @a5j <| And.intro @b2y <| And.intro @b1m <| And.intro @b3q <| And.intro @b3k <| And.intro @b1X <| And.intro @b5a <| And.intro @b4P <| And.intro @b5U <| And.intro @b8k <| And.intro @b4W <| And.intro @a5I <| And.intro @a8T <| And.intro @a9U <| And.intro @b7H <| And.intro @b4u <| And.intro @a5R <| And.intro @b4C <| And.intro @b5p <| And.intro @b2o <| And.intro @a8S <| And.intro @b5R <| And.intro @b3t <| And.intro @a9v <| And.intro @b1F <| And.intro @b3X <| And.intro @a9L <| And.intro @b2N <| And.intro @b2W <| And.intro @a9Q <| And.intro @b2t <| And.intro @a8l <| And.intro @b9t <| And.intro @a6R <| And.intro @a3m <| And.intro @a9G <| And.intro @a5B <| And.intro @b9z <| And.intro @b5S <| And.intro @b1C <| And.intro @b6e <| And.intro @b5B <| And.intro @b1V <| And.intro @b5m <| And.intro @b2T <| And.intro @a4r <| And.intro @a9A <| And.intro @a6f <| And.intro @a8y <| And.intro @a8Q <| And.intro @b4B <| And.intro @b5k <| And.intro @b2E <| And.intro @b5I <| And.intro @a6v <| And.intro @a4M <| And.intro @a7j <| And.intro @a7n <| And.intro @a5T <| And.intro @c3G <| And.intro @c2M <| And.intro @b7Q <| And.intro @b7T <| And.intro @b6D <| And.intro @b5E <| And.intro @b3C <| And.intro @a7Z <| And.intro @b7P <| And.intro @b5i <| And.intro @b9r <| And.intro @pK <| And.intro @b5V <| And.intro @b4a <| @b8J
theorem RT :
 (∀ {α : Type} (l : List α), [] ++ l = l) ∧
 (∀ {α : Type} (l : List α), l ++ [] = l) ∧
 (∀ {α : Type} {a : α} {l m : List α}, a :: l ++ m = a :: (l ++ m)) ∧
 (∀ (cs : List Value) (i : Nat) (v : Value) (vs : List Value), iW cs i (v :: vs) = iW (cs.set i v) (i + 1) vs) ∧
 (∀ (cs : List Value) (i : Nat), iW cs i [] = cs) ∧
 (∀ {α : Type} {x : α} {xs : List α} {a : α}, (x :: xs).set 0 a = a :: xs) ∧
 (∀ {α : Type} {x : α} {xs : List α} {i : Nat} {a : α}, (x :: xs).set (i + 1) a = x :: xs.set i a) ∧
 (∀ (n : Nat), 0 + n = n) ∧
 (∀ (n : Nat), n * 1 = n) ∧
 (∀ (n : Nat), n + 0 = n) :=
 ⟨@List.nil_append, @List.append_nil, @List.cons_append, @jI, @mQ, @List.set_cons_zero, @List.set_cons_succ, @Nat.zero_add, @Nat.mul_one, @Nat.add_zero⟩
end Go.Ds
namespace Go.Ds
open Go.Proofs Go.Proofs.Tryz
abbrev I (n : Int) : Value := .int .i64 n
theorem sR (H : Heap) : St prog H H [] := .refl ..
theorem kE : prog.follows .mixedOrders = true := by kernel_rfl
theorem tS3 : iD prog 3 = some 1 := by kernel_rfl
theorem tS9 : iD prog 9 = some 1 := by kernel_rfl
theorem b7I : iD prog 26 = some 3 := by kernel_rfl
theorem c2f : iD prog 27 = some 5 := by kernel_rfl
theorem b4G : iD prog 31 = some 1 := by kernel_rfl
theorem b6o : iD prog 32 = some 1 := by kernel_rfl
theorem a9M : iD prog 33 = some 1 := by kernel_rfl
theorem lP : iD prog 35 = some 4 := by kernel_rfl
theorem c4a : iD prog 37 = some 1 := by kernel_rfl
theorem c2b : iD prog 38 = some 1 := by kernel_rfl
theorem oL : iD prog 40 = some 3 := by kernel_rfl
theorem c2K : iD prog 44 = some 3 := by kernel_rfl
theorem a9S : iD prog 49 = some 1 := by kernel_rfl
theorem nV : iD prog 61 = some 2 := by kernel_rfl
theorem c0L : iD prog 73 = some 2 := by kernel_rfl
theorem zK : iD prog 80 = some 2 := by kernel_rfl
theorem yM : iD prog 82 = some 6 := by kernel_rfl
theorem nA : iD prog 84 = some 2 := by kernel_rfl
theorem b8d : iD prog 89 = some 4 := by kernel_rfl
theorem c0G : iD prog 93 = some 9 := by kernel_rfl
theorem yX : iD prog 96 = some 2 := by kernel_rfl
theorem b8G : iD prog 97 = some 1 := by kernel_rfl
theorem uB : iD prog 99 = some 5 := by kernel_rfl
theorem vG : iD prog 100 = some 1 := by kernel_rfl
theorem mM : iD prog 102 = some 4 := by kernel_rfl
theorem b5X : iD prog 105 = some 4 := by kernel_rfl
theorem b0D : iD prog 107 = some 4 := by kernel_rfl
theorem vQ : iD prog 109 = some 5 := by kernel_rfl
theorem nR : iD prog 122 = some 2 := by kernel_rfl
theorem a0u : iD prog 134 = some 2 := by kernel_rfl
theorem a1Z : iD prog 137 = some 3 := by kernel_rfl
theorem b0E : iD prog 149 = some 1 := by kernel_rfl
theorem b0V : iD prog 170 = some 3 := by kernel_rfl
theorem b6q : iD prog 211 = some 1 := by kernel_rfl
theorem c0u : iS prog 49 = some 1 := by kernel_rfl
theorem lQ : kR prog 94 = true ∧ nS prog 9 = true ∧ kR prog 9 = false := ⟨by kernel_rfl, by kernel_rfl, by kernel_rfl⟩
theorem c6i (A i e : Nat) (k : IntKind) (j : Int) (h0 : 0 ≤ j) (h1 : j < 5) : vV (iS prog 27) prog 27 (ptr A i e) (.int k j) = some (ptr A (i + j.toNat * 1) e) := a4T (n := 5) (elem := 5) (size := 1) (by kernel_rfl) (by kernel_rfl) A i e k j h0 h1
theorem c6t (A i e : Nat) (k : IntKind) (j : Int) (h0 : 0 ≤ j) (h1 : j < 3) : vV (iS prog 44) prog 44 (ptr A i e) (.int k j) = some (ptr A (i + j.toNat * 1) e) := a4T (n := 3) (elem := 43) (size := 1) (by kernel_rfl) (by kernel_rfl) A i e k j h0 h1
theorem c3f (A i e : Nat) (k : IntKind) (j : Int) (h0 : 0 ≤ j) (h1 : j < 64) : vV (iS prog 273) prog 273 (ptr A i e) (.int k j) = some (ptr A (i + j.toNat * 1) e) := a4T (n := 64) (elem := 5) (size := 1) (by kernel_rfl) (by kernel_rfl) A i e k j h0 h1
theorem a9z : mZ prog 31 = some (6, 80) := by kernel_rfl
theorem c0q : ((iF prog 31).bind (jB prog)).any jC = true := by kernel_rfl
theorem a8a : mZ prog 32 = some (5, 64) := by kernel_rfl
theorem c1e : ((iF prog 32).bind (jB prog)).any jC = true := by kernel_rfl
theorem yS : mZ prog 33 = some (5, 48) := by kernel_rfl
theorem b2I : ((iF prog 33).bind (jB prog)).any jC = true := by kernel_rfl
theorem c1H : mZ prog 37 = some (1, 8) := by kernel_rfl
theorem c4l : ((iF prog 37).bind (jB prog)).any jC = true := by kernel_rfl
theorem a5D : mZ prog 46 = some (2, 16) := by kernel_rfl
theorem b6x : ((iF prog 46).bind (jB prog)).any jC = true := by kernel_rfl
theorem vD : mZ prog 49 = some (1, 8) := by kernel_rfl
theorem a0R : ((iF prog 49).bind (jB prog)).any jC = true := by kernel_rfl
theorem a7X : mZ prog 94 = some (1, 1) := by kernel_rfl
theorem a7K : ((iF prog 94).bind (jB prog)).any jC = true := by kernel_rfl
theorem a8e : mZ prog 97 = some (4, 56) := by kernel_rfl
theorem c1u : ((iF prog 97).bind (jB prog)).any jC = true := by kernel_rfl
theorem pQ : mZ prog 100 = some (3, 40) := by kernel_rfl
theorem vO : ((iF prog 100).bind (jB prog)).any jC = true := by kernel_rfl
theorem a6g : mZ prog 115 = some (2, 16) := by kernel_rfl
theorem c0g : ((iF prog 115).bind (jB prog)).any jC = true := by kernel_rfl
theorem a3O : mZ prog 125 = some (1, 16) := by kernel_rfl
theorem a3b : ((iF prog 125).bind (jB prog)).any jC = true := by kernel_rfl
theorem b3E : mZ prog 126 = some (2, 16) := by kernel_rfl
theorem b9L : ((iF prog 126).bind (jB prog)).any jC = true := by kernel_rfl
theorem a4b : mZ prog 135 = some (2, 16) := by kernel_rfl
theorem a3t : ((iF prog 135).bind (jB prog)).any jC = true := by kernel_rfl
theorem rB : mZ prog 149 = some (2, 16) := by kernel_rfl
theorem a3M : ((iF prog 149).bind (jB prog)).any jC = true := by kernel_rfl
theorem b6B : mZ prog 158 = some (3, 40) := by kernel_rfl
theorem b3W : ((iF prog 158).bind (jB prog)).any jC = true := by kernel_rfl
theorem b9U : mZ prog 173 = some (2, 16) := by kernel_rfl
theorem c0b : ((iF prog 173).bind (jB prog)).any jC = true := by kernel_rfl
theorem c3u : c1X prog 49 = some (8, .int .i64 0) := by kernel_rfl
theorem c3B (t2 : TypeId) (cx cy : Bool) (a0 : Int) (a1 : Int) (b0 : Int) (b1 : Int) : kS prog .eql 61 t2 cx cy (.agg #[.int .i64 a0, .int .i64 a1]) (.agg #[.int .i64 b0, .int .i64 b1]) = some (.bool (decide (a0 = b0 ∧ a1 = b1))) ∧ kS prog .neq 61 t2 cx cy (.agg #[.int .i64 a0, .int .i64 a1]) (.agg #[.int .i64 b0, .int .i64 b1]) = some (.bool (decide (¬ (a0 = b0 ∧ a1 = b1)))) := by
 have h := yD (P := prog) (t := 61) (t2 := t2) (cx := cx) (cy := cy) (xs := [.int .i64 a0, .int .i64 a1]) (ys := [.int .i64 b0, .int .i64 b1]) (by kernel_rfl) (by kernel_rfl) (by kernel_rfl) (by kernel_rfl) rfl (by kernel_rfl) rfl rfl
 have e : ((List.range [Value.int .i64 a0, .int .i64 a1].length).all fun j => eqC ([Value.int .i64 a0, .int .i64 a1].getD j undef) ([Value.int .i64 b0, .int .i64 b1].getD j undef)) = decide (a0 = b0 ∧ a1 = b1) := by
  show (eqC (Value.int .i64 a0) (.int .i64 b0) && (eqC (Value.int .i64 a1) (.int .i64 b1) && true)) = _
  rw [ey]
  simp [eqC]
 rw [e] at h
 exact ⟨h.1, by rw [h.2]; simp⟩
theorem c4L (t2 : TypeId) (cx cy : Bool) (a0 : Int) (a1 : Int) (b0 : Int) (b1 : Int) : kS prog .eql 61 t2 cx cy (.agg #[.int .i64 a0, .int .i64 a1]) (.agg #[.int .i64 b0, .int .i64 b1]) = some (.bool (decide (a0 = b0 ∧ a1 = b1))) := (c3B t2 cx cy a0 a1 b0 b1).1
theorem c3d (t2 : TypeId) (cx cy : Bool) (a0 : Int) (a1 : Int) (b0 : Int) (b1 : Int) : kS prog .neq 61 t2 cx cy (.agg #[.int .i64 a0, .int .i64 a1]) (.agg #[.int .i64 b0, .int .i64 b1]) = some (.bool (decide (¬ (a0 = b0 ∧ a1 = b1)))) := (c3B t2 cx cy a0 a1 b0 b1).2
theorem c2J (t2 : TypeId) (cx cy : Bool) (a0 : Int) (a1 : Int) (b0 : Int) (b1 : Int) : kS prog .eql 84 t2 cx cy (.agg #[.int .u64 a0, .int .u64 a1]) (.agg #[.int .u64 b0, .int .u64 b1]) = some (.bool (decide (a0 = b0 ∧ a1 = b1))) ∧ kS prog .neq 84 t2 cx cy (.agg #[.int .u64 a0, .int .u64 a1]) (.agg #[.int .u64 b0, .int .u64 b1]) = some (.bool (decide (¬ (a0 = b0 ∧ a1 = b1)))) := by
 have h := yD (P := prog) (t := 84) (t2 := t2) (cx := cx) (cy := cy) (xs := [.int .u64 a0, .int .u64 a1]) (ys := [.int .u64 b0, .int .u64 b1]) (by kernel_rfl) (by kernel_rfl) (by kernel_rfl) (by kernel_rfl) rfl (by kernel_rfl) rfl rfl
 have e : ((List.range [Value.int .u64 a0, .int .u64 a1].length).all fun j => eqC ([Value.int .u64 a0, .int .u64 a1].getD j undef) ([Value.int .u64 b0, .int .u64 b1].getD j undef)) = decide (a0 = b0 ∧ a1 = b1) := by
  show (eqC (Value.int .u64 a0) (.int .u64 b0) && (eqC (Value.int .u64 a1) (.int .u64 b1) && true)) = _
  rw [ey]
  simp [eqC]
 rw [e] at h
 exact ⟨h.1, by rw [h.2]; simp⟩
theorem c4y (t2 : TypeId) (cx cy : Bool) (a0 : Int) (a1 : Int) (b0 : Int) (b1 : Int) : kS prog .eql 84 t2 cx cy (.agg #[.int .u64 a0, .int .u64 a1]) (.agg #[.int .u64 b0, .int .u64 b1]) = some (.bool (decide (a0 = b0 ∧ a1 = b1))) := (c2J t2 cx cy a0 a1 b0 b1).1
theorem c4c (t2 : TypeId) (cx cy : Bool) (a0 : Int) (a1 : Int) (b0 : Int) (b1 : Int) : kS prog .neq 84 t2 cx cy (.agg #[.int .u64 a0, .int .u64 a1]) (.agg #[.int .u64 b0, .int .u64 b1]) = some (.bool (decide (¬ (a0 = b0 ∧ a1 = b1)))) := (c2J t2 cx cy a0 a1 b0 b1).2
theorem b9S (t2 : TypeId) (cx cy : Bool) (a0 : Int) (a1 : Int) (b0 : Int) (b1 : Int) : kS prog .eql 122 t2 cx cy (.agg #[.int .i64 a0, .int .i64 a1]) (.agg #[.int .i64 b0, .int .i64 b1]) = some (.bool (decide (a0 = b0 ∧ a1 = b1))) ∧ kS prog .neq 122 t2 cx cy (.agg #[.int .i64 a0, .int .i64 a1]) (.agg #[.int .i64 b0, .int .i64 b1]) = some (.bool (decide (¬ (a0 = b0 ∧ a1 = b1)))) := by
 have h := yD (P := prog) (t := 122) (t2 := t2) (cx := cx) (cy := cy) (xs := [.int .i64 a0, .int .i64 a1]) (ys := [.int .i64 b0, .int .i64 b1]) (by kernel_rfl) (by kernel_rfl) (by kernel_rfl) (by kernel_rfl) rfl (by kernel_rfl) rfl rfl
 have e : ((List.range [Value.int .i64 a0, .int .i64 a1].length).all fun j => eqC ([Value.int .i64 a0, .int .i64 a1].getD j undef) ([Value.int .i64 b0, .int .i64 b1].getD j undef)) = decide (a0 = b0 ∧ a1 = b1) := by
  show (eqC (Value.int .i64 a0) (.int .i64 b0) && (eqC (Value.int .i64 a1) (.int .i64 b1) && true)) = _
  rw [ey]
  simp [eqC]
 rw [e] at h
 exact ⟨h.1, by rw [h.2]; simp⟩
theorem c1Y (t2 : TypeId) (cx cy : Bool) (a0 : Int) (a1 : Int) (b0 : Int) (b1 : Int) : kS prog .eql 122 t2 cx cy (.agg #[.int .i64 a0, .int .i64 a1]) (.agg #[.int .i64 b0, .int .i64 b1]) = some (.bool (decide (a0 = b0 ∧ a1 = b1))) := (b9S t2 cx cy a0 a1 b0 b1).1
theorem c0S (t2 : TypeId) (cx cy : Bool) (a0 : Int) (a1 : Int) (b0 : Int) (b1 : Int) : kS prog .neq 122 t2 cx cy (.agg #[.int .i64 a0, .int .i64 a1]) (.agg #[.int .i64 b0, .int .i64 b1]) = some (.bool (decide (¬ (a0 = b0 ∧ a1 = b1)))) := (b9S t2 cx cy a0 a1 b0 b1).2
theorem b9J (t2 : TypeId) (cx cy : Bool) (a0 : Int) (a1 : Int) (b0 : Int) (b1 : Int) : kS prog .eql 134 t2 cx cy (.agg #[.int .i64 a0, .int .i64 a1]) (.agg #[.int .i64 b0, .int .i64 b1]) = some (.bool (decide (a0 = b0 ∧ a1 = b1))) ∧ kS prog .neq 134 t2 cx cy (.agg #[.int .i64 a0, .int .i64 a1]) (.agg #[.int .i64 b0, .int .i64 b1]) = some (.bool (decide (¬ (a0 = b0 ∧ a1 = b1)))) := by
 have h := yD (P := prog) (t := 134) (t2 := t2) (cx := cx) (cy := cy) (xs := [.int .i64 a0, .int .i64 a1]) (ys := [.int .i64 b0, .int .i64 b1]) (by kernel_rfl) (by kernel_rfl) (by kernel_rfl) (by kernel_rfl) rfl (by kernel_rfl) rfl rfl
 have e : ((List.range [Value.int .i64 a0, .int .i64 a1].length).all fun j => eqC ([Value.int .i64 a0, .int .i64 a1].getD j undef) ([Value.int .i64 b0, .int .i64 b1].getD j undef)) = decide (a0 = b0 ∧ a1 = b1) := by
  show (eqC (Value.int .i64 a0) (.int .i64 b0) && (eqC (Value.int .i64 a1) (.int .i64 b1) && true)) = _
  rw [ey]
  simp [eqC]
 rw [e] at h
 exact ⟨h.1, by rw [h.2]; simp⟩
theorem c0Q (t2 : TypeId) (cx cy : Bool) (a0 : Int) (a1 : Int) (b0 : Int) (b1 : Int) : kS prog .eql 134 t2 cx cy (.agg #[.int .i64 a0, .int .i64 a1]) (.agg #[.int .i64 b0, .int .i64 b1]) = some (.bool (decide (a0 = b0 ∧ a1 = b1))) := (b9J t2 cx cy a0 a1 b0 b1).1
theorem c2e (t2 : TypeId) (cx cy : Bool) (a0 : Int) (a1 : Int) (b0 : Int) (b1 : Int) : kS prog .neq 134 t2 cx cy (.agg #[.int .i64 a0, .int .i64 a1]) (.agg #[.int .i64 b0, .int .i64 b1]) = some (.bool (decide (¬ (a0 = b0 ∧ a1 = b1)))) := (b9J t2 cx cy a0 a1 b0 b1).2
theorem c2k {a1 : ByteArray} : kD prog 35 [(0, .string a1)] = some (.agg #[.string a1, .slice none 0 0, .slice none 0 0, .slice none 0 0]) := by kernel_rfl
theorem a5i {a1 : ByteArray} {a2 : Value} {a3 : Value} {a4 : Value} (h2 : a2.cells = #[a2] ∧ oneCell a2 = true ∧ pL a2 = true) (h3 : a3.cells = #[a3] ∧ oneCell a3 = true ∧ pL a3 = true) (h4 : a4.cells = #[a4] ∧ oneCell a4 = true ∧ pL a4 = true) : kD prog 35 [(0, .string a1), (1, a2), (2, a3), (3, a4)] = some (.agg #[.string a1, a2, a3, a4]) := by cases a2 <;> cases a3 <;> cases a4 <;> first | (exfalso; simp [oneCell] at h2; done) | (exfalso; simp [oneCell] at h3; done) | (exfalso; simp [oneCell] at h4; done) | kernel_rfl
theorem b3V {a1 : Value} {a2 : Int} (h1 : a1.cells = #[a1] ∧ oneCell a1 = true ∧ pL a1 = true) : kD prog 40 [(0, a1), (1, .int .u64 a2)] = some (.agg #[a1, .int .u64 a2, .int .u64 0]) := by cases a1 <;> first | (exfalso; simp [oneCell] at h1; done) | kernel_rfl
theorem b5r {a1 : Int} {a2 : Int} : kD prog 40 [(1, .int .u64 a1), (2, .int .u64 a2)] = some (.agg #[.slice none 0 0, .int .u64 a1, .int .u64 a2]) := by kernel_rfl
theorem a8C {a1 : Int} {a2 : Int} {a3 : Int} : kD prog 44 [(0, .int .u16 a1), (1, .int .u16 a2), (2, .int .u16 a3)] = some (.agg #[.int .u16 a1, .int .u16 a2, .int .u16 a3]) := by kernel_rfl
theorem c3g : kD prog 61 [] = some (.agg #[.int .i64 0, .int .i64 0]) := by kernel_rfl
theorem c1h {a1 : Int} : kD prog 61 [(0, .int .i64 a1)] = some (.agg #[.int .i64 a1, .int .i64 0]) := by kernel_rfl
theorem xN {a1 : Int} {a2 : Int} : kD prog 61 [(0, .int .i64 a1), (1, .int .i64 a2)] = some (.agg #[.int .i64 a1, .int .i64 a2]) := by kernel_rfl
theorem c0M {a1 : Int} : kD prog 61 [(1, .int .i64 a1)] = some (.agg #[.int .i64 0, .int .i64 a1]) := by kernel_rfl
theorem yN {a1 : Int} {a2 : Int} : kD prog 80 [(0, .int .i64 a1), (1, .int .i64 a2)] = some (.agg #[.int .i64 a1, .int .i64 a2]) := by kernel_rfl
theorem a5b {a1 : ByteArray} {a2 : ByteArray} {a3 : Int} {a4 : Int} {a5 : Int} : kD prog 82 [(0, .string a1), (1, .string a2), (2, .agg #[.int .i64 a3, .int .i64 a4]), (3, .int .i64 a5)] = some (.agg #[.string a1, .string a2, .int .i64 a3, .int .i64 a4, .int .i64 a5, .slice none 0 0]) := by kernel_rfl
theorem a1q {a1 : ByteArray} {a2 : ByteArray} {a3 : Int} {a4 : Int} {a5 : Int} {a6 : Value} (h6 : a6.cells = #[a6] ∧ oneCell a6 = true ∧ pL a6 = true) : kD prog 82 [(0, .string a1), (1, .string a2), (2, .agg #[.int .i64 a3, .int .i64 a4]), (3, .int .i64 a5), (4, a6)] = some (.agg #[.string a1, .string a2, .int .i64 a3, .int .i64 a4, .int .i64 a5, a6]) := by cases a6 <;> first | (exfalso; simp [oneCell] at h6; done) | kernel_rfl
theorem b4e : kD prog 84 [] = some (.agg #[.int .u64 0, .int .u64 0]) := by kernel_rfl
theorem b6P {a1 : Int} {a2 : Int} : kD prog 84 [(0, .int .u64 a1), (1, .int .u64 a2)] = some (.agg #[.int .u64 a1, .int .u64 a2]) := by kernel_rfl
theorem a1n {a1 : Int} {a2 : Int} : kD prog 96 [(0, .int .i64 a1), (1, .int .i64 a2)] = some (.agg #[.int .i64 a1, .int .i64 a2]) := by kernel_rfl
theorem c1F {a1 : ByteArray} : kD prog 99 [(0, .string a1)] = some (.agg #[.string a1, .bool false, .int .i64 0, .int .i64 0, .slice none 0 0]) := by kernel_rfl
theorem a9s {a1 : ByteArray} {a2 : Bool} {a3 : Int} {a4 : Int} : kD prog 99 [(0, .string a1), (1, .bool a2), (2, .agg #[.int .i64 a3, .int .i64 a4])] = some (.agg #[.string a1, .bool a2, .int .i64 a3, .int .i64 a4, .slice none 0 0]) := by kernel_rfl
theorem a1t {a1 : ByteArray} {a2 : Int} {a3 : Int} {a4 : Value} (h4 : a4.cells = #[a4] ∧ oneCell a4 = true ∧ pL a4 = true) : kD prog 99 [(0, .string a1), (2, .agg #[.int .i64 a2, .int .i64 a3]), (3, a4)] = some (.agg #[.string a1, .bool false, .int .i64 a2, .int .i64 a3, a4]) := by cases a4 <;> first | (exfalso; simp [oneCell] at h4; done) | kernel_rfl
theorem b1R {a1 : ByteArray} {a2 : Int} {a3 : Int} : kD prog 102 [(0, .string a1), (1, .agg #[.int .i64 a2, .int .i64 a3])] = some (.agg #[.string a1, .int .i64 a2, .int .i64 a3, .slice none 0 0]) := by kernel_rfl
theorem a7k {a1 : ByteArray} {a2 : Int} {a3 : Int} {a4 : Value} (h4 : a4.cells = #[a4] ∧ oneCell a4 = true ∧ pL a4 = true) : kD prog 102 [(0, .string a1), (1, .agg #[.int .i64 a2, .int .i64 a3]), (2, a4)] = some (.agg #[.string a1, .int .i64 a2, .int .i64 a3, a4]) := by cases a4 <;> first | (exfalso; simp [oneCell] at h4; done) | kernel_rfl
theorem a5L {a1 : ByteArray} {a2 : Int} {a3 : Int} : kD prog 109 [(0, .string a1), (1, .int .i64 a2), (2, .int .i64 a3)] = some (.agg #[.string a1, .int .i64 a2, .int .i64 a3, .int .i64 0, .bool false]) := by kernel_rfl
theorem a0T {a1 : ByteArray} {a2 : Int} {a3 : Int} {a4 : Int} {a5 : Bool} : kD prog 109 [(0, .string a1), (1, .int .i64 a2), (2, .int .i64 a3), (3, .int .i64 a4), (4, .bool a5)] = some (.agg #[.string a1, .int .i64 a2, .int .i64 a3, .int .i64 a4, .bool a5]) := by kernel_rfl
theorem a5y {a1 : ByteArray} {a2 : Int} {a3 : Int} : kD prog 109 [(0, .string a1), (1, .int .i64 a2), (3, .int .i64 a3)] = some (.agg #[.string a1, .int .i64 a2, .int .i64 0, .int .i64 a3, .bool false]) := by kernel_rfl
theorem b3f {a1 : ByteArray} {a2 : Int} : kD prog 109 [(0, .string a1), (3, .int .i64 a2)] = some (.agg #[.string a1, .int .i64 0, .int .i64 0, .int .i64 a2, .bool false]) := by kernel_rfl
theorem b3K : kD prog 122 [] = some (.agg #[.int .i64 0, .int .i64 0]) := by kernel_rfl
theorem b1p {a1 : Int} {a2 : Int} : kD prog 122 [(0, .int .i64 a1), (1, .int .i64 a2)] = some (.agg #[.int .i64 a1, .int .i64 a2]) := by kernel_rfl
theorem qB {a1 : Int} {a2 : Int} : kD prog 134 [(0, .int .i64 a1), (1, .int .i64 a2)] = some (.agg #[.int .i64 a1, .int .i64 a2]) := by kernel_rfl
theorem c1V : kD prog 137 [] = some (.agg #[.int .i64 0, .int .i64 0, .slice none 0 0]) := by kernel_rfl
theorem lG {a1 : Int} {a2 : Int} {a3 : Value} (h3 : a3.cells = #[a3] ∧ oneCell a3 = true ∧ pL a3 = true) : kD prog 137 [(0, .int .i64 a1), (1, .int .i64 a2), (2, a3)] = some (.agg #[.int .i64 a1, .int .i64 a2, a3]) := by cases a3 <;> first | (exfalso; simp [oneCell] at h3; done) | kernel_rfl
theorem b1v {a1 : Value} {a2 : Int} {a3 : Int} (h1 : a1.cells = #[a1] ∧ oneCell a1 = true ∧ pL a1 = true) : kD prog 170 [(0, a1), (1, .agg #[.int .i64 a2, .int .i64 a3])] = some (.agg #[a1, .int .i64 a2, .int .i64 a3]) := by cases a1 <;> first | (exfalso; simp [oneCell] at h1; done) | kernel_rfl
theorem b1D {a1 : Int} {a2 : Int} : kD prog 249 [(0, .int .u64 a1), (1, .int .u64 a2)] = some (.agg #[.int .u64 a1, .int .u64 a2]) := by kernel_rfl
theorem tR5 (l : List Value) (H : Heap) : iC prog Tryz.f5 l H = some (get l 6) := rfl
theorem tR6 (l : List Value) (H : Heap) : iC prog Tryz.f6 l H = some (get l 0) := rfl
theorem tR7 (l : List Value) (H : Heap) : iC prog Tryz.f7 l H = some (get l 2) := rfl
theorem tR8 (l : List Value) (H : Heap) : iC prog Tryz.f8 l H = oS (jK prog 35) (iD prog 35) H (get l 2) := by
 show (Option.bind (Option.bind (lL prog H 35 (get l 2)) fun v => some [v]) fun vs => _) = _
 rw [kY]
 cases oS _ _ H (get l 2) <;> rfl
theorem tR9 (l : List Value) (H : Heap) : iC prog Tryz.f9 l H = oS (jK prog 40) (iD prog 40) H (get l 4) := by
 show (Option.bind (Option.bind (lL prog H 40 (get l 4)) fun v => some [v]) fun vs => _) = _
 rw [kY]
 cases oS _ _ H (get l 4) <;> rfl
theorem c5X (l : List Value) (H : Heap) : iC prog Tryz.f10 l H = some (get l 4) := rfl
theorem c2U (l : List Value) (H : Heap) : iC prog Tryz.f12 l H = if (iY (get l 6) && (iY (get l 7) && true)) = true then some (.tuple #[get l 6, get l 7]) else none := rfl
theorem c0A (l : List Value) (H : Heap) : iC prog Tryz.f13 l H = if (iY (get l 6) && (iY (get l 7) && (iY (get l 8) && true))) = true then some (.tuple #[get l 6, get l 7, get l 8]) else none := rfl
theorem c1D (l : List Value) (H : Heap) : iC prog Tryz.f15 l H = some (get l 4) := rfl
theorem b2g (l : List Value) (H : Heap) : iC prog Tryz.f16 l H = some (get l 4) := rfl
theorem b7V (l : List Value) (H : Heap) : iC prog Tryz.f17 l H = some (get l 4) := rfl
theorem c4E (l : List Value) (H : Heap) : iC prog Tryz.f18 l H = if (iY (get l 6) && (iY (get l 7) && true)) = true then some (.tuple #[get l 6, get l 7]) else none := rfl
theorem c4Q (l : List Value) (H : Heap) : iC prog Tryz.f19 l H = if (iY (get l 6) && (iY (get l 7) && true)) = true then some (.tuple #[get l 6, get l 7]) else none := rfl
theorem c6g (l : List Value) (H : Heap) : iC prog Tryz.f20 l H = some (get l 2) := rfl
theorem c3e (l : List Value) (H : Heap) : iC prog Tryz.f21 l H = if (iY (get l 8) && (iY (get l 9) && true)) = true then some (.tuple #[get l 8, get l 9]) else none := rfl
theorem c4i (l : List Value) (H : Heap) : iC prog Tryz.f22 l H = if (iY (get l 6) && (iY (get l 7) && true)) = true then some (.tuple #[get l 6, get l 7]) else none := rfl
theorem c3Q (l : List Value) (H : Heap) : iC prog Tryz.f24 l H = if (iY (get l 4) && (iY (get l 5) && true)) = true then some (.tuple #[get l 4, get l 5]) else none := rfl
theorem c3T (l : List Value) (H : Heap) : iC prog Tryz.f25 l H = oS (jK prog 35) (iD prog 35) H (get l 4) := by
 show (Option.bind (Option.bind (lL prog H 35 (get l 4)) fun v => some [v]) fun vs => _) = _
 rw [kY]
 cases oS _ _ H (get l 4) <;> rfl
theorem a2I (l : List Value) (H : Heap) : iC prog Tryz.f26 l H = some (get l 2) := rfl
theorem c5F (l : List Value) (H : Heap) : iC prog Tryz.f27 l H = oS (jK prog 35) (iD prog 35) H (get l 0) := by
 show (Option.bind (Option.bind (lL prog H 35 (get l 0)) fun v => some [v]) fun vs => _) = _
 rw [kY]
 cases oS _ _ H (get l 0) <;> rfl
theorem c5s (l : List Value) (H : Heap) : iC prog Tryz.f28 l H = some (get l 4) := rfl
theorem c5y (l : List Value) (H : Heap) : iC prog Tryz.f29 l H = (oS (jK prog 84) (iD prog 84) H (get l 2)).bind fun v => if (iY v && (iY (get l 3) && true)) = true then some (.tuple #[v, get l 3]) else none := by
 show (Option.bind (Option.bind (lL prog H 84 (get l 2)) fun v => some [v, get l 3]) fun vs => _) = _
 rw [kY]
 cases oS _ _ H (get l 2) <;> rfl
theorem c5D (l : List Value) (H : Heap) : iC prog Tryz.f30 l H = oS (jK prog 82) (iD prog 82) H (get l 4) := by
 show (Option.bind (Option.bind (lL prog H 82 (get l 4)) fun v => some [v]) fun vs => _) = _
 rw [kY]
 cases oS _ _ H (get l 4) <;> rfl
theorem a8h (l : List Value) (H : Heap) : iC prog Tryz.f31 l H = oS (jK prog 102) (iD prog 102) H (get l 8) := by
 show (Option.bind (Option.bind (lL prog H 102 (get l 8)) fun v => some [v]) fun vs => _) = _
 rw [kY]
 cases oS _ _ H (get l 8) <;> rfl
theorem b4M (l : List Value) (H : Heap) : iC prog Tryz.f33 l H = some (get l 6) := rfl
theorem c6k (l : List Value) (H : Heap) : iC prog Tryz.f36 l H = (oS (jK prog 84) (iD prog 84) H (get l 2)).bind fun v => if (iY v && (iY (get l 3) && true)) = true then some (.tuple #[v, get l 3]) else none := by
 show (Option.bind (Option.bind (lL prog H 84 (get l 2)) fun v => some [v, get l 3]) fun vs => _) = _
 rw [kY]
 cases oS _ _ H (get l 2) <;> rfl
theorem c6r (l : List Value) (H : Heap) : iC prog Tryz.f37 l H = some (get l 4) := rfl
theorem c4o (l : List Value) (H : Heap) : iC prog Tryz.f38 l H = if (iY (get l 6) && (iY (get l 7) && true)) = true then some (.tuple #[get l 6, get l 7]) else none := rfl
theorem c5V (l : List Value) (H : Heap) : iC prog Tryz.f39 l H = some (get l 4) := rfl
theorem c2q (l : List Value) (H : Heap) : iC prog Tryz.f40 l H = if (iY (get l 8) && (iY (get l 9) && true)) = true then some (.tuple #[get l 8, get l 9]) else none := rfl
theorem c2W (l : List Value) (H : Heap) : iC prog Tryz.f41 l H = if (iY (get l 6) && (iY (get l 7) && true)) = true then some (.tuple #[get l 6, get l 7]) else none := rfl
theorem b2F (l : List Value) (H : Heap) : iC prog Tryz.f42 l H = some (get l 2) := rfl
theorem a8m (l : List Value) (H : Heap) : iC prog Tryz.f43 l H = some (get l 2) := rfl
theorem c2S (l : List Value) (H : Heap) : iC prog Tryz.f44 l H = some (get l 4) := rfl
theorem b3O (l : List Value) (H : Heap) : iC prog Tryz.f45 l H = some (get l 4) := rfl
theorem yQ (l : List Value) (H : Heap) : iC prog Tryz.f46 l H = some (get l 4) := rfl
theorem c5T (l : List Value) (H : Heap) : iC prog Tryz.f47 l H = some (get l 6) := rfl
theorem c6o (l : List Value) (H : Heap) : iC prog Tryz.f48 l H = oS (jK prog 82) (iD prog 82) H (get l 2) := by
 show (Option.bind (Option.bind (lL prog H 82 (get l 2)) fun v => some [v]) fun vs => _) = _
 rw [kY]
 cases oS _ _ H (get l 2) <;> rfl
theorem c6l (l : List Value) (H : Heap) : iC prog Tryz.f49 l H = some (get l 2) := rfl
theorem c3x (l : List Value) (H : Heap) : iC prog Tryz.f50 l H = oS (jK prog 84) (iD prog 84) H (get l 4) := by
 show (Option.bind (Option.bind (lL prog H 84 (get l 4)) fun v => some [v]) fun vs => _) = _
 rw [kY]
 cases oS _ _ H (get l 4) <;> rfl
theorem c5h (l : List Value) (H : Heap) : iC prog Tryz.f51 l H = oS (jK prog 80) (iD prog 80) H (get l 2) := by
 show (Option.bind (Option.bind (lL prog H 80 (get l 2)) fun v => some [v]) fun vs => _) = _
 rw [kY]
 cases oS _ _ H (get l 2) <;> rfl
theorem c5k (l : List Value) (H : Heap) : iC prog Tryz.f52 l H = oS (jK prog 80) (iD prog 80) H (get l 2) := by
 show (Option.bind (Option.bind (lL prog H 80 (get l 2)) fun v => some [v]) fun vs => _) = _
 rw [kY]
 cases oS _ _ H (get l 2) <;> rfl
theorem c6b (l : List Value) (H : Heap) : iC prog Tryz.f53 l H = if (iY (get l 4) && (iY (get l 5) && true)) = true then some (.tuple #[get l 4, get l 5]) else none := rfl
theorem c1j (l : List Value) (H : Heap) : iC prog Tryz.f60 l H = some (get l 2) := rfl
theorem b9u (l : List Value) (H : Heap) : iC prog Tryz.f61 l H = some (get l 2) := rfl
theorem c5Y (l : List Value) (H : Heap) : iC prog Tryz.f62 l H = oS (jK prog 84) (iD prog 84) H (get l 4) := by
 show (Option.bind (Option.bind (lL prog H 84 (get l 4)) fun v => some [v]) fun vs => _) = _
 rw [kY]
 cases oS _ _ H (get l 4) <;> rfl
theorem c4G (l : List Value) (H : Heap) : iC prog Tryz.f63 l H = some (get l 6) := rfl
theorem c6n (l : List Value) (H : Heap) : iC prog Tryz.f64 l H = some (get l 6) := rfl
theorem c5P (l : List Value) (H : Heap) : iC prog Tryz.f65 l H = some (get l 2) := rfl
theorem b5y (l : List Value) (H : Heap) : iC prog Tryz.f66 l H = some (get l 4) := rfl
theorem c6e (l : List Value) (H : Heap) : iC prog Tryz.f67 l H = some (get l 4) := rfl
theorem c4C (l : List Value) (H : Heap) : iC prog Tryz.f68 l H = some (get l 2) := rfl
theorem c4v (l : List Value) (H : Heap) : iC prog Tryz.f69 l H = some (get l 6) := rfl
theorem b4f (l : List Value) (H : Heap) : iC prog Tryz.f70 l H = some (get l 2) := rfl
theorem b6a (l : List Value) (H : Heap) : iC prog Tryz.f71 l H = some (get l 2) := rfl
theorem c4r (l : List Value) (H : Heap) : iC prog Tryz.f72 l H = some (get l 2) := rfl
theorem c3n (l : List Value) (H : Heap) : iC prog Tryz.f73 l H = some (get l 2) := rfl
theorem a0I (l : List Value) (H : Heap) : iC prog Tryz.f74 l H = some (get l 4) := rfl
theorem c5q (l : List Value) (H : Heap) : iC prog Tryz.f75 l H = some (get l 4) := rfl
theorem c5o (l : List Value) (H : Heap) : iC prog Tryz.f76 l H = some (get l 3) := rfl
theorem c3F (l : List Value) (H : Heap) : iC prog Tryz.f77 l H = some (get l 4) := rfl
theorem c5W (l : List Value) (H : Heap) : iC prog Tryz.f78 l H = some (get l 4) := rfl
theorem c0Y (l : List Value) (H : Heap) : iC prog Tryz.f86 l H = some (get l 4) := rfl
theorem c5r (l : List Value) (H : Heap) : iC prog Tryz.f87 l H = some (get l 6) := rfl
theorem c5C (l : List Value) (H : Heap) : iC prog Tryz.f88 l H = some (get l 6) := rfl
theorem c6m (l : List Value) (H : Heap) : iC prog Tryz.f89 l H = some (get l 2) := rfl
theorem c4j (l : List Value) (H : Heap) : iC prog Tryz.f90 l H = if (iY (get l 6) && (iY (get l 7) && true)) = true then some (.tuple #[get l 6, get l 7]) else none := rfl
theorem c6h (l : List Value) (H : Heap) : iC prog Tryz.f91 l H = some (get l 4) := rfl
theorem b1q (l : List Value) (H : Heap) : iC prog Tryz.f92 l H = some (get l 2) := rfl
theorem c5A (l : List Value) (H : Heap) : iC prog Tryz.f93 l H = some (get l 4) := rfl
theorem c3t (l : List Value) (H : Heap) : iC prog Tryz.f94 l H = some (get l 2) := rfl
theorem c0x (l : List Value) (H : Heap) : iC prog Tryz.f95 l H = some (get l 2) := rfl
theorem a8Y (l : List Value) (H : Heap) : iC prog Tryz.f96 l H = some (get l 4) := rfl
theorem c3l (l : List Value) (H : Heap) : iC prog Tryz.f97 l H = some (get l 4) := rfl
theorem c3J (l : List Value) (H : Heap) : iC prog Tryz.f116 l H = some (get l 6) := rfl
theorem b9V (l : List Value) (H : Heap) : iC prog Tryz.f117 l H = some (.tuple #[]) := rfl
theorem c2T (l : List Value) (H : Heap) : iC prog Tryz.f118 l H = some (get l 4) := rfl
theorem b4Y (l : List Value) (H : Heap) : iC prog Tryz.f119 l H = some (get l 2) := rfl
theorem c4R (l : List Value) (H : Heap) : iC prog Tryz.f120 l H = some (get l 2) := rfl
theorem c2H (l : List Value) (H : Heap) : iC prog Tryz.f121 l H = some (get l 2) := rfl
theorem c0d (l : List Value) (H : Heap) : iC prog Tryz.f122 l H = some (get l 2) := rfl
theorem b3I (l : List Value) (H : Heap) : iC prog Tryz.f123 l H = some (get l 4) := rfl
theorem c3w (l : List Value) (H : Heap) : iC prog Tryz.f124 l H = some (get l 4) := rfl
theorem b9K (l : List Value) (H : Heap) : iC prog Tryz.f125 l H = some (get l 2) := rfl
theorem c0k (l : List Value) (H : Heap) : iC prog Tryz.f126 l H = some (get l 4) := rfl
theorem c3S (l : List Value) (H : Heap) : iC prog Tryz.f127 l H = some (get l 4) := rfl
theorem b9W (l : List Value) (H : Heap) : iC prog Tryz.f150 l H = oS (jK prog 137) (iD prog 137) H (get l 4) := by
 show (Option.bind (Option.bind (lL prog H 137 (get l 4)) fun v => some [v]) fun vs => _) = _
 rw [kY]
 cases oS _ _ H (get l 4) <;> rfl
theorem b0q (l : List Value) (H : Heap) : iC prog Tryz.f151 l H = (oS (jK prog 122) (iD prog 122) H (get l 6)).bind fun v => if (iY v && (iY (get l 7) && true)) = true then some (.tuple #[v, get l 7]) else none := by
 show (Option.bind (Option.bind (lL prog H 122 (get l 6)) fun v => some [v, get l 7]) fun vs => _) = _
 rw [kY]
 cases oS _ _ H (get l 6) <;> rfl
theorem c3r (l : List Value) (H : Heap) : iC prog Tryz.f152 l H = some (get l 2) := rfl
theorem c3k (l : List Value) (H : Heap) : iC prog Tryz.f153 l H = some (get l 4) := rfl
theorem c4Y (l : List Value) (H : Heap) : iC prog Tryz.f154 l H = some (.tuple #[]) := rfl
theorem c4f (l : List Value) (H : Heap) : iC prog Tryz.f155 l H = some (get l 2) := rfl
theorem c4h (l : List Value) (H : Heap) : iC prog Tryz.f156 l H = some (get l 2) := rfl
theorem b9Z (l : List Value) (H : Heap) : iC prog Tryz.f157 l H = some (get l 4) := rfl
theorem b9X (l : List Value) (H : Heap) : iC prog Tryz.f173 l H = some (get l 4) := rfl
theorem c0c (l : List Value) (H : Heap) : iC prog Tryz.f174 l H = some (get l 3) := rfl
theorem c3R (l : List Value) (H : Heap) : iC prog Tryz.f175 l H = some (get l 4) := rfl
theorem a6M : MapK prog 128 Value.string (.bool false) := MapK.str (kt := 9) (et := 4) (by kernel_rfl) (by kernel_rfl) (by kernel_rfl) rfl
theorem a5s : MapK prog 211 (fun p : Int × Int => .agg #[I p.1, I p.2]) (.bool false) := MapK.struct (kt := 61) (et := 4) (fs := (zT prog 61).toArray) (by kernel_rfl) (by kernel_rfl) (by kernel_rfl) rfl (fun b k => by cases b <;> kernel_rfl) (fun a b => c1y (by kernel_rfl) (by kernel_rfl) (by kernel_rfl) (fun _ _ _ _ => by kernel_rfl) a b) (fun k => c2A k)
theorem tt0 : jK prog 3 = some false ∧ jK prog 4 = some false ∧ iD prog 4 = some 1 ∧ jK prog 5 = some false ∧ iD prog 5 = some 1 ∧ jK prog 9 = some false ∧ jK prog 22 = some false ∧ iD prog 22 = some 1 ∧ jK prog 23 = some false ∧ iD prog 23 = some 1 ∧ jK prog 24 = some false ∧ iD prog 24 = some 1 ∧ jK prog 26 = some true ∧ jK prog 27 = some true ∧ jK prog 31 = some false ∧ jK prog 32 = some false ∧ jK prog 33 = some false ∧ jK prog 35 = some true ∧ jK prog 37 = some false ∧ jK prog 38 = some false ∧ jK prog 40 = some true ∧ jK prog 43 = some false ∧ iD prog 43 = some 1 ∧ jK prog 44 = some true ∧ jK prog 46 = some false ∧ iD prog 46 = some 1 ∧ jK prog 49 = some false ∧ jK prog 61 = some true ∧ jK prog 73 = some true ∧ jK prog 80 = some true ∧ jK prog 82 = some true ∧ jK prog 84 = some true ∧ jK prog 87 = some false ∧ iD prog 87 = some 1 ∧ jK prog 89 = some true ∧ jK prog 91 = some false ∧ iD prog 91 = some 1 ∧ jK prog 93 = some true ∧ jK prog 96 = some true ∧ jK prog 97 = some false := by and_intros <;> kernel_rfl
theorem tt1 : jK prog 99 = some true ∧ jK prog 100 = some false ∧ jK prog 102 = some true ∧ jK prog 105 = some true ∧ jK prog 107 = some true ∧ jK prog 109 = some true ∧ jK prog 122 = some true ∧ jK prog 134 = some true ∧ jK prog 135 = some false ∧ iD prog 135 = some 1 ∧ jK prog 137 = some true ∧ jK prog 149 = some false ∧ jK prog 170 = some true ∧ jK prog 211 = some false ∧ iS prog 22 = some 9 ∧ iS prog 23 = some 4 ∧ iS prog 24 = some 4 ∧ iS prog 31 = some 6 ∧ iS prog 32 = some 5 ∧ iS prog 33 = some 5 ∧ iS prog 37 = some 1 ∧ iS prog 42 = some 1 ∧ iS prog 46 = some 2 ∧ iS prog 87 = some 4 ∧ iS prog 94 = some 1 ∧ iS prog 97 = some 4 ∧ iS prog 100 = some 3 ∧ iS prog 115 = some 2 ∧ iS prog 125 = some 1 ∧ iS prog 126 = some 2 ∧ iS prog 135 = some 2 ∧ iS prog 149 = some 2 ∧ iS prog 158 = some 3 ∧ iS prog 173 = some 2 ∧ lN prog 31 = true ∧ lN prog 32 = true ∧ lN prog 33 = true ∧ lN prog 37 = true ∧ lN prog 46 = true ∧ lN prog 49 = true := by and_intros <;> kernel_rfl
theorem tt2 : lN prog 94 = true ∧ lN prog 97 = true ∧ lN prog 100 = true ∧ lN prog 115 = true ∧ lN prog 125 = true ∧ lN prog 126 = true ∧ lN prog 135 = true ∧ lN prog 149 = true ∧ lN prog 158 = true ∧ lN prog 173 = true ∧ iS prog 9 = none ∧ nS prog 9 = true ∧ iT prog 26 0 = some 0 ∧ iT prog 26 1 = some 1 ∧ iT prog 26 2 = some 2 ∧ iT prog 35 0 = some 0 ∧ iT prog 35 1 = some 1 ∧ iT prog 35 2 = some 2 ∧ iT prog 35 3 = some 3 ∧ iT prog 40 0 = some 0 ∧ iT prog 40 1 = some 1 ∧ iT prog 40 2 = some 2 ∧ iT prog 61 0 = some 0 ∧ iT prog 61 1 = some 1 ∧ iT prog 73 0 = some 0 ∧ iT prog 73 1 = some 1 ∧ iT prog 80 0 = some 0 ∧ iT prog 80 1 = some 1 ∧ iT prog 82 0 = some 0 ∧ iT prog 82 1 = some 1 ∧ iT prog 82 2 = some 2 ∧ iT prog 82 3 = some 4 ∧ iT prog 82 4 = some 5 ∧ iT prog 84 0 = some 0 ∧ iT prog 84 1 = some 1 ∧ iT prog 89 0 = some 0 ∧ iT prog 89 1 = some 1 ∧ iT prog 89 2 = some 2 ∧ iT prog 89 3 = some 3 ∧ iT prog 93 0 = some 0 := by and_intros <;> kernel_rfl
theorem tt3 : iT prog 93 1 = some 1 ∧ iT prog 93 2 = some 2 ∧ iT prog 93 3 = some 3 ∧ iT prog 93 4 = some 4 ∧ iT prog 96 0 = some 0 ∧ iT prog 96 1 = some 1 ∧ iT prog 99 0 = some 0 ∧ iT prog 99 2 = some 2 ∧ iT prog 99 3 = some 4 ∧ iT prog 102 0 = some 0 ∧ iT prog 102 1 = some 1 ∧ iT prog 102 2 = some 3 ∧ iT prog 105 0 = some 0 ∧ iT prog 105 1 = some 1 ∧ iT prog 105 2 = some 2 ∧ iT prog 105 3 = some 3 ∧ iT prog 107 0 = some 0 ∧ iT prog 107 1 = some 1 ∧ iT prog 107 2 = some 2 ∧ iT prog 107 3 = some 3 ∧ iT prog 109 0 = some 0 ∧ iT prog 109 1 = some 1 ∧ iT prog 109 2 = some 2 ∧ iT prog 109 3 = some 3 ∧ iT prog 109 4 = some 4 ∧ iT prog 122 0 = some 0 ∧ iT prog 122 1 = some 1 ∧ iT prog 134 0 = some 0 ∧ iT prog 134 1 = some 1 ∧ iT prog 137 0 = some 0 ∧ iT prog 137 1 = some 1 ∧ iT prog 137 2 = some 2 ∧ iT prog 170 0 = some 0 ∧ iT prog 170 1 = some 1 ∧ jB prog 35 = some (.agg #[.string ⟨#[]⟩, .slice none 0 0, .slice none 0 0, .slice none 0 0]) ∧ jM prog 35 = none ∧ jB prog 40 = some (.agg #[.slice none 0 0, .int .u64 0, .int .u64 0]) ∧ jM prog 40 = none ∧ jB prog 61 = some (.agg #[.int .i64 0, .int .i64 0]) ∧ jM prog 61 = none := by and_intros <;> kernel_rfl
theorem tt4 : jB prog 80 = some (.agg #[.int .i64 0, .int .i64 0]) ∧ jM prog 80 = none ∧ jB prog 82 = some (.agg #[.string ⟨#[]⟩, .string ⟨#[]⟩, .int .i64 0, .int .i64 0, .int .i64 0, .slice none 0 0]) ∧ jM prog 82 = none ∧ jB prog 84 = some (.agg #[.int .u64 0, .int .u64 0]) ∧ jM prog 84 = none ∧ jB prog 89 = some (.agg #[.int .u8 0, .int .u8 0, .bool false, .slice none 0 0]) ∧ jM prog 89 = none ∧ jB prog 96 = some (.agg #[.int .i64 0, .int .i64 0]) ∧ jM prog 96 = none ∧ jB prog 99 = some (.agg #[.string ⟨#[]⟩, .bool false, .int .i64 0, .int .i64 0, .slice none 0 0]) ∧ jM prog 99 = none ∧ jB prog 102 = some (.agg #[.string ⟨#[]⟩, .int .i64 0, .int .i64 0, .slice none 0 0]) ∧ jM prog 102 = none ∧ jB prog 107 = some (.agg #[.int .u8 0, .int .u8 0, .int .i8 0, .bool false]) ∧ jM prog 107 = none ∧ jB prog 109 = some (.agg #[.string ⟨#[]⟩, .int .i64 0, .int .i64 0, .int .i64 0, .bool false]) ∧ jM prog 109 = none ∧ jB prog 122 = some (.agg #[.int .i64 0, .int .i64 0]) ∧ jM prog 122 = none ∧ jB prog 134 = some (.agg #[.int .i64 0, .int .i64 0]) ∧ jM prog 134 = none ∧ jB prog 137 = some (.agg #[.int .i64 0, .int .i64 0, .slice none 0 0]) ∧ jM prog 137 = none ∧ jB prog 149 = some (.slice none 0 0) ∧ jM prog 149 = none ∧ jB prog 211 = some (.map none) ∧ jM prog 211 = none ∧ a0O prog 3 = some .i64 ∧ a0O prog 5 = some .u8 ∧ a0O prog 38 = some .u64 ∧ a0O prog 91 = some .i8 ∧ a0O prog 110 = some .u64 := by and_intros <;> kernel_rfl
def TS := (And.intro (And.intro (And.intro (And.intro (And.intro @tt0 (And.intro @tt1 @tt2)) (And.intro @tt3 (And.intro @tt4 @tS3))) (And.intro (And.intro @tS9 (And.intro @b7I @c2f)) (And.intro @b4G (And.intro @b6o @a9M)))) (And.intro (And.intro (And.intro @lP (And.intro @c4a @c2b)) (And.intro @oL (And.intro @c2K @a9S))) (And.intro (And.intro @nV (And.intro @c0L @zK)) (And.intro (And.intro @yM @nA) (And.intro @b8d @c0G))))) (And.intro (And.intro (And.intro (And.intro @yX (And.intro @b8G @uB)) (And.intro @vG (And.intro @mM @b5X))) (And.intro (And.intro @b0D (And.intro @vQ @nR)) (And.intro (And.intro @a0u @a1Z) (And.intro @b0E @b0V)))) (And.intro (And.intro (And.intro @b6q (And.intro @c0u @c6i)) (And.intro @c6t (And.intro @c3f @c4L))) (And.intro (And.intro @c3d (And.intro @c4y @c4c)) (And.intro (And.intro @c1Y @c0S) (And.intro @c0Q @c2e))))))
def RZ := And.intro @RB (And.intro @RC @TS)
end Go.Ds
