/-
  A part of the proof of SoundGrows.
-/
import Derived.Test.YtnokpoinacbjiaaGreatDoorVA
import Derived.Test.YtnokpoinacbjiaaGreatDoorVB
import Derived.Test.YtnokpoinacbjiaaGreatDoorProg
import Derived.KernelRfl
import Derived.Lib.LaidTab
import Derived.Stop.LaidErr
import Derived.Laws.Strings
set_option linter.unusedVariables false
set_option linter.unusedSimpArgs false
set_option linter.defProp false
set_option linter.unusedSectionVars false
namespace Go.Ds
noncomputable section
inductive Pth where
 | z
 | l (p : Pth)
 | r (p : Pth)
inductive Fr where
 | e
 | n (v : Value) (l r : Fr)
def a4h : Nat → Nat → Pth := fun f => Nat.rec (motive := fun _ => Nat → Pth) (fun _ => .z) (fun _ ih k => Nat.rec (motive := fun _ => Pth) .z (fun k _ => Bool.rec (motive := fun _ => Pth) (.r (ih (Nat.div k 2))) (.l (ih (Nat.div k 2))) (Nat.beq (Nat.mod k 2) 0)) k) f
def kN (k : Nat) : Pth := a4h k k
def nH (p : Pth) : Fr → Value := Pth.rec (motive := fun _ => Fr → Value)
 (fun f => Fr.rec (motive := fun _ => Value) undef (fun v _ _ _ _ => v) f)
 (fun _ ih f => Fr.rec (motive := fun _ => Value) undef (fun _ l _ _ _ => ih l) f)
 (fun _ ih f => Fr.rec (motive := fun _ => Value) undef (fun _ _ r _ _ => ih r) f) p
def pB {α : Type} (v : Value) (p : Pth) : Fr → (Fr → α) → α := Pth.rec (motive := fun _ => Fr → (Fr → α) → α)
 (fun f K => Fr.rec (motive := fun _ => α) (K (.n v .e .e)) (fun _ l r _ _ => K (.n v l r)) f)
 (fun _ ih f K => Fr.rec (motive := fun _ => α) (ih .e fun l => K (.n undef l .e)) (fun w l r _ _ => ih l fun l => K (.n w l r)) f)
 (fun _ ih f K => Fr.rec (motive := fun _ => α) (ih .e fun r => K (.n undef .e r)) (fun w l r _ _ => ih r fun r => K (.n w l r)) f) p
def lJ {α : Type} (p : Pth) : (Pth → α) → α := Pth.rec (motive := fun _ => (Pth → α) → α) (fun K => K .z) (fun _ ih K => ih fun p => K (.l p)) (fun _ ih K => ih fun p => K (.r p)) p
inductive LArg where
 | t (p : Pth)
 | c (v : Value)
def mI (f : Fr) (x : LArg) : Value := LArg.rec (motive := fun _ => Value) (fun p => nH p f) (fun v => v) x
inductive Rs where
 | no
 | ok (v : Value) (H : Heap)
 | th (v : Value) (H : Heap)
def nP {α : Type} (v : Value) (K : Value → α) : α :=
 match v with
 | .bool b => K (.bool b)
 | .int k n => K (.int k n)
 | .string s => K (.string s)
 | .pointer a => K (.pointer a)
 | .slice a n c => K (.slice a n c)
 | .map r => K (.map r)
 | .func fn a b => K (.func fn a b)
 | .agg cs => K (.agg cs)
 | .tuple vs => K (.tuple vs)
 | v => K v
inductive LOp where
 | bad
 | mv (x : LArg)
 | pick (c a b : LArg)
 | bin (g : IntKind → Int → Int → Option Value) (x y : LArg)
 | not (x : LArg)
 | ld1 (x : LArg)
 | ldn (n : Nat) (x : LArg)
 | st (n : Nat) (x y : LArg)
 | fa (off : Nat) (x : LArg)
 | ixs (size : Nat) (x i : LArg)
 | ixa (n size : Nat) (x i : LArg)
 | ext (i : Nat) (x : LArg)
 | f1 (off : Nat) (x : LArg)
 | fn (off n : Nat) (x : LArg)
 | len (x : LArg)
 | slen (x : LArg)
 | app (elem size bytes : Nat) (x y : LArg)
 | alloc (t : TypeId) (cs : List Value)
 | callF (f : FuncId) (p : Pth) (args : List LArg)
 | callV (g : LArg) (args : List LArg)
 | gen (o : Oper)
inductive LOps where
 | nil
 | cons (d : Option Pth) (o : LOp) (rest : LOps)
 | gcons (p : Pth) (w : Bool) (d : Option Pth) (o : LOp) (rest : LOps)
inductive LCode where
 | bad
 | skip
 | reg (ops : LOps)
 | drw (ops : LOps) (tab : List (Nat × Option Nat × Option (Pth × Bool) × LOp))
 | seq (a b : LCode)
 | cond (c : LArg) (x y : LCode)
 | block (id : Nat) (b : LCode)
 | loop (b : LCode)
 | exit (id : Nat)
 | ret
 | range (g : LArg) (ps : List Pth) (pp : List Pth) (params : Array Tmp) (assign body : Code) (a b : LCode)
inductive LRes where
 | t (p : Pth)
 | c1 (p : Pth)
 | cn (n : Nat) (p : Pth)
structure LFunc where
 ps : List Pth
 body : LCode
 res : List LRes
inductive LT where
 | e
 | n (g : Option LFunc) (l r : LT)
def a1p (p : Pth) : LT → Option LFunc := Pth.rec (motive := fun _ => LT → Option LFunc)
 (fun f => LT.rec (motive := fun _ => Option LFunc) none (fun v _ _ _ _ => v) f)
 (fun _ ih f => LT.rec (motive := fun _ => Option LFunc) none (fun _ l _ _ _ => ih l) f)
 (fun _ ih f => LT.rec (motive := fun _ => Option LFunc) none (fun _ _ r _ _ => ih r) f) p
def rD {α : Type} (v : LFunc) (p : Pth) : LT → (LT → α) → α := Pth.rec (motive := fun _ => LT → (LT → α) → α)
 (fun f K => LT.rec (motive := fun _ => α) (K (.n (some v) .e .e)) (fun _ l r _ _ => K (.n (some v) l r)) f)
 (fun _ ih f K => LT.rec (motive := fun _ => α) (ih .e fun l => K (.n none l .e)) (fun w l r _ _ => ih l fun l => K (.n w l r)) f)
 (fun _ ih f K => LT.rec (motive := fun _ => α) (ih .e fun r => K (.n none .e r)) (fun w l r _ _ => ih r fun r => K (.n w l r)) f) p
structure LEnv where
 L : Nat
 ps : List Pth
 pp : List Pth
 a : LCode
 b : LCode
def b7O (P : Program) (o : Oper) (ρ : Operand → Value) (H : Heap) : Option (Value × Heap) :=
 if o.op.operands.toList.all (fun x => flat (ρ x)) then
  match iK P (execOp ρ o) with
  | some (.value v) => if flat v then some (v, H) else none
  | _ => none
 else none
def c0R (P : Program) (o : Oper) (ρ : Operand → Value) (H : Heap) : Option (Value × Heap) :=
 let keep (v : Option Value) : Option (Value × Heap) := v.map fun v => (v, H)
 let plain : Option (Value × Heap) := b7O P o ρ H
 match o.op with
 | .move x | .assign x => some (ρ x, H)
 | .pick c a b => match ρ c with | .bool t => some (if t then ρ a else ρ b, H) | _ => none
 | .alloc t => (iY P t).bind fun z => if jA z then pR P H t z else none
 | .box t x => vX P H t (ρ x)
 | .build t parts =>
   let ps := parts.toList.map fun (i, x) => (i, ρ x)
   if (iY P t).any jA && ps.all (fun x => x.2.cells.toList.all oneCell) then
    (P.built t ps).map fun cs => (.agg cs, H)
   else none
 | .buildSlice t len parts =>
   (iJ P t).bind fun elem => (iD P elem).bind fun size => (iY P elem).bind fun z =>
   let ps := parts.toList.map fun (i, x) => (i, ρ x)
   if len == 0 && ps.isEmpty && size != 0 then some (.slice (some ⟨H.length, 0, some 0⟩) 0 size, qR H elem []) else
   if jA z && ps.all (fun x => x.2.cells.toList.all oneCell) && len * size ≤ 2 ^ 24 && len * size != 0 && z.cells.size == size then
    (Instr.fill (fun i => some (i * size, size)) ((Array.range (len * size)).map (z.cells[· % z.cells.size]!)) ps).map fun cs =>
      (.slice (some ⟨H.length, 0, some cs.toList.length⟩) len size, qR H elem cs.toList)
   else none
 | .makeSlice t n c =>
   (iJ P t).bind fun elem => (iD P elem).bind fun size => (nD P elem).bind fun bytes => (iY P elem).bind fun z =>
   match ρ n, ρ c with
   | .int .i64 a, .int .i64 b =>
     if jA z && decide (a ≤ b) && 0 ≤ a && b * (bytes + 1) ≤ (oB : Int) && size != 0 && z.cells.size == size then
      let cs := if size = 1 then List.replicate b.toNat (z.cells[0]!) else (madeCells z.cells (b.toNat * size)).toList
      some (.slice (some ⟨H.length, 0, some cs.length⟩) a.toNat size, qR H elem cs)
     else none
   | _, _ => none
 | .load t a => keep (lN P H t (ρ a))
 | .store t a x => (pS P H t (ρ a) (ρ x)).map fun H => (undef, H)
 | .nilCheck x => match ρ x with
   | .pointer (some a) => some (.pointer (some a), H)
   | .func (.func f) a b => some (.func (.func f) a b, H)
   | _ => none
 | .fieldAddr s x f => match ρ x with
   | .pointer (some ⟨A, i, some e⟩) => (nR P s f).bind fun fd => (iD P fd.type).bind fun n => if n == 0 then none else some (.pointer (some ⟨A, i + fd.offset, some e⟩), H)
   | _ => none
 | .indexAddr t x ix => match P.underlying t, ρ x, ρ ix with
   | some (.slice elem), .slice (some ⟨A, i, some e⟩) n _, .int _ j => (iD P elem).bind fun size =>
     if 0 ≤ j && j < n then some (.pointer (some ⟨A, i + j.toNat * size, some e⟩), H) else none
   | some (.array n elem), .pointer (some ⟨A, i, some e⟩), .int _ j => (iD P elem).bind fun size =>
     if 0 ≤ j && j < n then some (.pointer (some ⟨A, i + j.toNat * size, some e⟩), H) else none
   | some (.array n elem), .pointer (some ⟨A, i, none⟩), .int _ j => (iD P elem).bind fun size =>
     if 0 ≤ j && j < n then some (.pointer (some ⟨A, i + j.toNat * size, none⟩), H) else none
   | _, _, _ => none
 | .slice t x lo hi none => if flat (ρ x) then plain else match jL P t with
   | some (n, elem) => keep (a4m P H n elem (ρ x) (lo.map ρ) (hi.map ρ))
   | none => keep (vR P t (ρ x) (lo.map ρ) (hi.map ρ))
 | .field t x f => if flat (ρ x) then plain else
   match ρ x with
   | .agg cs => (nR P t f).bind fun fd => match jM P fd.type with
     | some true => (iD P fd.type).map fun n => (.agg (cs.extract fd.offset (fd.offset + n)), H)
     | some false => (cs[fd.offset]?).map fun v => (v, H)
     | none => none
   | _ => none
 | .extract t i => match ρ t with
   | .tuple vs => (vs[i]?).map fun v => (v, H)
   | _ => none
 | .makeFunc fn first captured => match fn with
   | .func f => if (first ++ captured).toList.all (fun x => oU (ρ x)) then some (.func (.func f) (first.map ρ) (captured.map ρ), H) else none
   | _ => none
 | .binOp op t x y _ => match op, ρ x, ρ y with
   | .eql, .slice (some _) _ _, .slice none 0 0 => if ((P.underlying t).map uG) == some true then some (.bool false, H) else none
   | .neq, .slice (some _) _ _, .slice none 0 0 => if ((P.underlying t).map uG) == some true then some (.bool true, H) else none
   | op, .int k a, .int k' b => if k = k' then (match mH op k a b with | some v => some (v, H) | none => plain) else plain
   | .eql, .pointer (some _), .pointer none => if sP P t then some (.bool false, H) else none
   | .neq, .pointer (some _), .pointer none => if sP P t then some (.bool true, H) else none
   | .eql, .pointer (some ⟨A, i, some e⟩), .pointer (some ⟨A', i', some e'⟩) => if sP P t && A == A' && i == i' && e == e' then some (.bool true, H) else none
   | .neq, .pointer (some ⟨A, i, some e⟩), .pointer (some ⟨A', i', some e'⟩) => if sP P t && A == A' && i == i' && e == e' then some (.bool false, H) else none
   | _, _, _ => plain
 | .call c => match c.callee with
   | .builtin .len => if c.args.size == 1 && c.argTypes.size == 1 then
      match (P.underlying (c.argTypes.getD 0 0)), ρ (c.args.getD 0 (.tmp 0)) with
      | some (.slice _), .slice a n k => keep (wC H (.slice a n k))
      | some .string, .string s => keep (wC H (.string s))
      | some (.map _ _), .map r => keep (wC H (.map r))
      | _, _ => none
     else none
   | .builtin .append => if c.args.size == 2 && c.argTypes.size == 2 && ((P.underlying (c.argTypes.getD 1 0)).map pA) == some true then
      nA P H (c.argTypes.getD 0 0) (ρ (c.args.getD 0 (.tmp 0))) (ρ (c.args.getD 1 (.tmp 0)))
     else none
   | .builtin .copy => if c.args.size == 2 && c.argTypes.size == 2 then a0g P H (c.argTypes.getD 0 0) (ρ (c.args.getD 0 (.tmp 0))) (ρ (c.args.getD 1 (.tmp 0))) else none
   | .builtin .clear => if c.args.size == 1 && c.argTypes.size == 1 then rZ P H (c.argTypes.getD 0 0) (ρ (c.args.getD 0 (.tmp 0))) else none
   | .builtin .cap => plain
   | .builtin .unsafeSliceData => if c.args.size == 1 && c.argTypes.size == 1 then match ρ (c.args.getD 0 (.tmp 0)) with
      | .slice (some a) n _ => if n == 0 then none else some (.pointer (some a), H)
      | _ => none
     else none
   | .builtin .unsafeString => if c.args.size == 2 && c.argTypes.size == 2 then uH P H (c.argTypes.getD 0 0) (ρ (c.args.getD 0 (.tmp 0))) (ρ (c.args.getD 1 (.tmp 0))) else none
   | .builtin .max => plain
   | .builtin .min => plain
   | _ => none
 | .unOp op _ x => match op, ρ x with
   | .not, .bool b => some (.bool (!b), H)
   | _, _ => plain
 | .makeMap t r => oW P H t (r.map ρ)
 | .lookup t x k c => keep (oP P H t (ρ x) (ρ k) c)
 | .mapUpdate t m k v => (a0u P H t (ρ m) (ρ k) (ρ v)).map fun H => (undef, H)
 | .mapEntry t m k => rP P H t (ρ m) (ρ k)
 | .entryStore _ m b v => (qS H (ρ m) (ρ b) (ρ v)).map fun H => (undef, H)
 | .convert s t x => if flat (ρ x) && !(kY P t) then plain else match ρ x with
   | .slice (some ⟨A, i, some e⟩) n _ => if kY P s && nI P t then keep ((jB H A i e n).bind fun l => (mY l).map .string) else none
   | .string b => if kY P t && nI P s && b.size ≤ 2 ^ 40 then (iJ P t).bind fun elem => some (.slice (some ⟨H.length, 0, some b.size⟩) b.size 1, b5T H elem (b.data.toList.map fun c => .int .u8 c.toNat)) else none
   | .pointer (some ⟨A, 0, some e⟩) => if a3p P H s t A e then some (.pointer (some ⟨A, 0, some e⟩), H) else none
   | _ => none
 | .index _ _ _ => plain
 | .makeInterface _ _ => plain
 | _ => none
def nG {α : Type} (b : Bool) (no : α) (x : α) : α := Bool.rec (motive := fun _ => α) no x b
def a5k {α : Type} (cs : List α) : Nat → Bool := List.rec (motive := fun _ => Nat → Bool) (fun e => Nat.beq e 0) (fun _ _ ih e => Nat.rec (motive := fun _ => Bool) true (fun m _ => ih m) e) cs
def a3g {α : Type} (cs : List α) : Nat → Bool := List.rec (motive := fun _ => Nat → Bool) (fun e => Nat.beq e 0) (fun _ _ ih e => Nat.rec (motive := fun _ => Bool) false (fun m _ => ih m) e) cs
def a0x {α : Type} (cs : List α) : Nat → Option α := List.rec (motive := fun _ => Nat → Option α) (fun _ => none) (fun v _ ih e => Nat.rec (motive := fun _ => Option α) (some v) (fun m _ => ih m) e) cs
def a0N {α : Type} (cs : List α) : Nat → (List α → Rs) → Rs := List.rec (motive := fun _ => Nat → (List α → Rs) → Rs) (fun n K => Nat.rec (motive := fun _ => Rs) (K []) (fun _ _ => .no) n) (fun v _ ih n K => Nat.rec (motive := fun _ => Rs) (K []) (fun m _ => ih m fun l => K (v :: l)) n) cs
def b0F {α : Type} (cs : List α) : Nat → List α := List.rec (motive := fun _ => Nat → List α) (fun _ => []) (fun v t ih n => Nat.rec (motive := fun _ => List α) (v :: t) (fun m _ => ih m) n) cs
def kIx (k : IntKind) : Nat := IntKind.rec (motive := fun _ => Nat) 0 1 2 3 4 5 6 7 k
def hMv (x : LArg) (f : Fr) (H : Heap) : Rs := nP (mI f x) fun v => .ok v H
def b5Q (c a b : LArg) (f : Fr) (H : Heap) : Rs := match mI f c with
 | .bool t => nP (mI f (Bool.rec (motive := fun _ => LArg) b a t)) fun v => .ok v H
 | _ => .no
def oV (v : Option Value) (H : Heap) : Rs := Option.rec (motive := fun _ => Rs) .no (fun v => .th v H) v
def b9c (g : IntKind → Int → Int → Option Value) (k : IntKind) (a : Int) (H : Heap) (y : Value) : Rs := match y with
 | .int k' b => nG (Nat.beq (kIx k) (kIx k')) .no (oV (g k a b) H)
 | _ => .no
def c1q (g : IntKind → Int → Int → Option Value) (x y : LArg) (f : Fr) (H : Heap) : Rs := match mI f x with
 | .int k a => b9c g k a H (mI f y)
 | _ => .no
def c4Y (x : LArg) (f : Fr) (H : Heap) : Rs := match mI f x with
 | .bool b => .ok (.bool (Bool.rec (motive := fun _ => Bool) true false b)) H
 | _ => .no
def b8G (b : Option Blk) (i e : Nat) (H : Heap) : Rs := match b with
 | some (.cells cs _ _ lo _) => nG (Nat.ble lo e) .no (nG (a5k cs e) .no (nG (Nat.ble (Nat.succ i) e) .no (Option.rec (motive := fun _ => Rs) .no (fun v => nP v fun v => .ok v H) (a0x cs i))))
 | _ => .no
def b9G (b : Option Blk) (i : Nat) (H : Heap) : Rs := match b with
 | some (.cells cs _ false lo 1) => nG (a5k cs lo) .no (Option.rec (motive := fun _ => Rs) .no (fun v => nP v fun v => .ok v H) (a0x cs i))
 | _ => .no
def b1p (x : LArg) (f : Fr) (H : Heap) : Rs := match mI f x with
 | .pointer (some ⟨A, i, some e⟩) => b8G (iP H A) i e H
 | .pointer (some ⟨A, i, none⟩) => b9G (iP H A) i H
 | _ => .no
def b8A (b : Option Blk) (n i e : Nat) (H : Heap) : Rs := match b with
 | some (.cells cs _ _ lo _) => nG (Nat.ble lo e) .no (nG (a5k cs e) .no (nG (Nat.ble (Nat.add i n) e) .no (a0N (b0F cs i) n fun l => .ok (.agg ⟨l⟩) H)))
 | _ => .no
def b1M (n : Nat) (x : LArg) (f : Fr) (H : Heap) : Rs := match mI f x with
 | .pointer (some ⟨A, i, some e⟩) => b8A (iP H A) n i e H
 | _ => .no
def stB (b : Option Blk) (n A i e : Nat) (vs : List Value) (H : Heap) : Rs := match b with
 | some (.cells cs ty true lo ver) => nG (a3g vs n) .no (nG (vs.all oneCell) .no (nG (a3g cs e) .no (nG (Nat.ble (Nat.add i n) e) .no (nG (Nat.ble lo e) .no
    (.th undef (hset H A (.cells (iW cs i vs) ty true e ver)))))))
 | _ => .no
def hSt (n : Nat) (x y : LArg) (f : Fr) (H : Heap) : Rs := match mI f x with
 | .pointer (some ⟨A, i, some e⟩) => stB (iP H A) n A i e (mI f y).cells.toList H
 | _ => .no
def hFa (off : Nat) (x : LArg) (f : Fr) (H : Heap) : Rs := match mI f x with
 | .pointer (some ⟨A, i, some e⟩) => kA (Nat.add i off) fun i => .ok (.pointer (some ⟨A, i, some e⟩)) H
 | _ => .no
def ixP (A i e size n : Nat) (H : Heap) (j : Value) : Rs := match j with
 | .int _ (.ofNat j) => nG (Nat.blt j n) .no (kA (Nat.add i (Nat.mul j size)) fun i => .ok (.pointer (some ⟨A, i, some e⟩)) H)
 | _ => .no
def c0f (size : Nat) (x i : LArg) (f : Fr) (H : Heap) : Rs := match mI f x with
 | .slice (some ⟨A, a, some e⟩) n _ => ixP A a e size n H (mI f i)
 | _ => .no
def ixG (A i size n : Nat) (H : Heap) (j : Value) : Rs := match j with
 | .int _ (.ofNat j) => nG (Nat.blt j n) .no (kA (Nat.add i (Nat.mul j size)) fun i => .ok (.pointer (some ⟨A, i, none⟩)) H)
 | _ => .no
def b9N (n size : Nat) (x i : LArg) (f : Fr) (H : Heap) : Rs := match mI f x with
 | .pointer (some ⟨A, a, some e⟩) => ixP A a e size n H (mI f i)
 | .pointer (some ⟨A, a, none⟩) => ixG A a size n H (mI f i)
 | _ => .no
def okV (v : Option Value) (H : Heap) : Rs := Option.rec (motive := fun _ => Rs) .no (fun v => nP v fun v => .ok v H) v
def c0p (i : Nat) (x : LArg) (f : Fr) (H : Heap) : Rs := match mI f x with
 | .tuple ⟨vs⟩ => okV (a0x vs i) H
 | _ => .no
def hF1 (off : Nat) (x : LArg) (f : Fr) (H : Heap) : Rs := match mI f x with
 | .agg ⟨cs⟩ => okV (a0x cs off) H
 | _ => .no
def hFn (off n : Nat) (x : LArg) (f : Fr) (H : Heap) : Rs := match mI f x with
 | .agg ⟨cs⟩ => a0N (b0F cs off) n fun l => .ok (.agg ⟨l⟩) H
 | _ => .no
def c0x (x : LArg) (f : Fr) (H : Heap) : Rs := match mI f x with
 | .slice _ n _ => .th (goInt n) H
 | _ => .no
def b5I (x : LArg) (f : Fr) (H : Heap) : Rs := match mI f x with
 | .string s => .th (goInt s.size) H
 | _ => .no
def c3B (b : Option Blk) (elem size bytes A i e k : Nat) (n : Nat) (l : List Value) (P : Program) (H : Heap) : Rs := match b with
 | some (.cells cs ty true lo ver) => nG (Bool.rec (motive := fun _ => Bool) (iD P ty == some size) true (Nat.beq ty elem)) .no (nG (a3g cs e) .no (nG (Nat.ble lo e) .no
    (nG (Nat.beq (Nat.add i (Nat.mul k size)) e)
      (nG (Nat.beq n 0) (nG (Nat.ble (Nat.add i (Nat.mul (Nat.add k n) size)) e) .no (.th (.slice (some ⟨A, i, some e⟩) (k + n) size) (hset H A (.cells (iW cs (i + k * size) l) ty true e ver)))) .no)
      (nG (Nat.ble (Nat.mul (Nat.add k n) (Nat.succ bytes)) oB) .no (.th (.slice (some ⟨A, i, some (e + l.length)⟩) (k + n) size) (hset H A (.cells (a4d cs l) ty true lo (Bool.rec (motive := fun _ => Nat) 2 ver (Nat.beq ty elem)))))))))
 | _ => .no
def c3h (P : Program) (elem size bytes : Nat) (s : Value) (H : Heap) (n : Nat) (l : List Value) : Rs := match s with
 | .slice none k c => nG (Nat.beq k 0) .no (nG (Nat.beq c 0) .no (nG (Nat.ble (Nat.mul n (Nat.succ bytes)) oB) .no (nG (Nat.beq n 0) (.th (.slice (some ⟨H.length, 0, some l.length⟩) n size) (qR H elem l)) (.ok (.slice none 0 0) H))))
 | .slice (some ⟨A, i, some e⟩) k _ => c3B (iP H A) elem size bytes A i e k n l P H
 | _ => .no
def c0n (P : Program) (elem size bytes : Nat) (x y : LArg) (f : Fr) (H : Heap) : Rs := match yY H size (mI f y) with
 | some (n, l) => c3h P elem size bytes (mI f x) H n l
 | none => .no
def c0z (t : TypeId) (cs : List Value) (_ : Fr) (H : Heap) : Rs := .th (.pointer (some ⟨H.length, 0, some cs.length⟩)) (qR H t cs)
def evF (f : Fr) : Operand → Value
 | .tmp t => nH (kN t) f
 | .const v => v
 | .global g => .pointer (some ⟨g, 0, none⟩)
 | .func k => .func (.func k) #[] #[]
def c4m (P : Program) (o : Oper) (f : Fr) (H : Heap) : Rs := match c0R P o (evF f) H with
 | some (v, H1) => .th v H1
 | none => .no
def a3e {α : Type} (f : Fr) (l : List LArg) : (List Value → α) → α := List.rec (motive := fun _ => (List Value → α) → α) (fun K => K []) (fun x _ ih K => nP (mI f x) fun v => ih fun l => K (v :: l)) l
structure Calls' where
 fn : Pth → FuncId → List Value → Heap → Rs
 rd : Nat → List Value → Heap → Rs
def c1r (C : Calls') (k : FuncId) (p : Pth) (args : List LArg) (f : Fr) (H : Heap) : Rs := a3e f args fun l => C.fn p k l H
def a8r (C : Calls') (l : List Value) (H : Heap) (g : Value) : Rs := match g with
 | .func (.func k) ⟨a⟩ ⟨b⟩ => kA k fun k => lJ (kN k) fun p => C.fn p k (a4d a (a4d l b)) H
 | .func (.yield L) _ _ => C.rd L l H
 | _ => .no
def b9T (C : Calls') (g : LArg) (args : List LArg) (f : Fr) (H : Heap) : Rs := a3e f args fun l => a8r C l H (mI f g)
def c4U (_ : Fr) (_ : Heap) : Rs := .no
def opF (P : Program) (C : Calls') (o : LOp) : Fr → Heap → Rs :=
 LOp.rec (motive := fun _ => Fr → Heap → Rs) c4U hMv b5Q c1q c4Y b1p b1M hSt hFa c0f b9N c0p hF1 hFn c0x b5I (c0n P) c0z (c1r C) (b9T C) (c4m P) o
inductive Rf where
 | no
 | ok (f : Fr) (H : Heap)
def tY {α : Type} (d : Option Pth) (v : Value) (f : Fr) (K : Fr → α) : α := Option.rec (motive := fun _ => α) (K f) (fun p => pB v p f K) d
def b0c {α : Type} (no : α) (d : Option Pth) (f : Fr) (K : Fr → Heap → α) (r : Rs) : α :=
 Rs.rec (motive := fun _ => α) no (fun v H => tY d v f fun f => K f H) (fun v H => xJ v fun v => nE H fun H => tY d v f fun f => K f H) r
def isB (v : Value) (w : Bool) : Bool := match v with
 | .bool b => Bool.rec (motive := fun _ => Bool) (Bool.rec (motive := fun _ => Bool) true false w) w b
 | _ => false
def wX (P : Program) (C : Calls') (ops : LOps) : Fr → Heap → Rf := LOps.rec (motive := fun _ => Fr → Heap → Rf)
 (fun f H => .ok f H)
 (fun d o _ ih f H => b0c .no d f ih (opF P C o f H))
 (fun p w d o _ ih f H => nG (isB (nH p f) w) (tY d undef f fun f => ih f H) (b0c .no d f ih (opF P C o f H))) ops
inductive Rt where
 | no
 | ok (tr : List (Fr × Heap × Value)) (f : Fr) (H : Heap)
def b0x (tr : List (Fr × Heap × Value)) (f0 : Fr) (H0 : Heap) (d : Option Pth) (K : List (Fr × Heap × Value) → Fr → Heap → Rt) (r : Rs) : Rt :=
 Rs.rec (motive := fun _ => Rt) .no (fun v H => tY d v f0 fun f => K ((f0, H0, v) :: tr) f H) (fun v H => xJ v fun v => nE H fun H => tY d v f0 fun f => K ((f0, H0, v) :: tr) f H) r
def qJ (P : Program) (C : Calls') (ops : LOps) : List (Fr × Heap × Value) → Fr → Heap → Rt := LOps.rec (motive := fun _ => List (Fr × Heap × Value) → Fr → Heap → Rt)
 (fun tr f H => .ok tr f H)
 (fun d o _ ih tr f H => b0x tr f H d ih (opF P C o f H))
 (fun p w d o _ ih tr f H => nG (isB (nH p f) w) (tY d undef f fun f1 => ih ((f, H, undef) :: tr) f1 H) (b0x tr f H d ih (opF P C o f H))) ops
def b7A (v : Value) (r : Rs) : Bool := Rs.rec (motive := fun _ => Bool) false (fun w _ => veq w v) (fun w _ => veq w v) r
def b4n (f : Fr) (g : Option (Pth × Bool)) : Bool := match g with
 | none => true
 | some (p, w) => isB (nH p f) w
def b3X (P : Program) (C : Calls') (tr : List (Fr × Heap × Value)) (H1 : Heap) (x : Nat × Option Nat × Option (Pth × Bool) × LOp) : Bool :=
 match a0x tr x.1 with
 | some (f, _, v) => nG (b4n f x.2.2.1) true (match x.2.1 with
   | none => b7A v (opF P C x.2.2.2 f H1)
   | some m => match a0x tr m with
     | some (_, H, _) => b7A v (opF P C x.2.2.2 f H)
     | none => false)
 | none => false
def b4w {α : Type} (p : α → Bool) (l : List α) : Bool := List.rec (motive := fun _ => Bool) true (fun x _ ih => nG (p x) false ih) l
inductive Rc where
 | no
 | ok (e : Ex) (f : Fr) (H : Heap)
def c2E (r : Rf) : Rc := Rf.rec (motive := fun _ => Rc) .no (fun f H => .ok .normal f H) r
def b8Y (P : Program) (C : Calls') (tab : List (Nat × Option Nat × Option (Pth × Bool) × LOp)) (r : Rt) : Rc := Rt.rec (motive := fun _ => Rc) .no (fun tr f H => nG (b4w (b3X P C tr H) tab) .no (.ok .normal f H)) r
def oM {α : Type} (no : α) (l : List Value) : List Pth → Fr → (Fr → α) → α := List.rec (motive := fun _ => List Pth → Fr → (Fr → α) → α) (fun _ f K => K f)
 (fun v _ ih ps f K => List.rec (motive := fun _ => α) no (fun p ps _ => pB v p f fun f => ih ps f K) ps) l
def a2J (H : Heap) (f : Fr) (r : LRes) : Rs := LRes.rec (motive := fun _ => Rs) (fun p => nP (nH p f) fun v => .ok v H) (fun p => b1p (.t p) f H) (fun n p => b1M n (.t p) f H) r
def b3F (H : Heap) (f : Fr) (l : List LRes) : (List Value → Rs) → Rs := List.rec (motive := fun _ => (List Value → Rs) → Rs) (fun K => K []) (fun r _ ih K => Rs.rec (motive := fun _ => Rs) .no (fun v _ => ih fun l => K (v :: l)) (fun _ _ => .no) (a2J H f r)) l
def noT (v : Value) : Bool := match v with | .tuple _ => false | _ => true
def a5D (l : List LRes) (f : Fr) (H : Heap) : Rs := match l with
 | [r] => a2J H f r
 | l => b3F H f l fun vs => nG (b4w noT vs) .no (.ok (.tuple ⟨vs⟩) H)
def b9Z (l : List LRes) (r : Rc) : Rs := match r with
 | .ok .normal f H => a5D l f H
 | .ok .ret f H => a5D l f H
 | _ => .no
abbrev pE := List LEnv → LCode → Fr → Heap → Rc
def c0L (P : Program) (k : FuncId) (args : List Value) (H : Heap) : Rs := match pI P k args H with
 | some (v, H1) => .th v H1
 | none => .no
def mJ (T : LT) (ih : pE) (E : List LEnv) (p : Pth) (args : List Value) (H : Heap) : Rs := match a1p p T with
 | some g => oM .no args g.ps .e fun f => b9Z g.res (ih E g.body f H)
 | none => .no
def b5J (P : Program) (T : LT) (ih : pE) (E : List LEnv) (p : Pth) (k : FuncId) (args : List Value) (H : Heap) : Rs := match a1p p T with
 | some g => oM .no args g.ps .e fun f => b9Z g.res (ih E g.body f H)
 | none => c0L P k args H
def b5e (E : List LEnv) (L : Nat) : Option LEnv := List.rec (motive := fun _ => Option LEnv) none (fun e _ ih => nG (Nat.beq e.L L) ih (some e)) E
def b8X (e : Ex) : Option Code := match e with | .normal => none | .ret => some .ret | .exit id => some (.exit id)
def a1H (L : Nat) (e : Ex) (H : Heap) : Rs := match iP H L with
 | some (.loop ⟨_, _, fn, tmps, ps, a, b, d⟩) => match b8X e with
   | none => .th (.bool true) (hset H L (.loop ⟨.ready, none, fn, tmps, ps, a, b, d⟩))
   | some c => .th (.bool false) (hset H L (.loop ⟨.done, some c, fn, tmps, ps, a, b, d⟩))
 | _ => .no
def b0X (L : Nat) (r : Rc) : Rs := match r with
 | .ok e _ H => a1H L e H
 | .no => .no
def yJ (ih : pE) (E : List LEnv) (en : LEnv) (f : Fr) (H : Heap) : Rs := match iP H en.L with
 | some (.loop ⟨.ready, p, fn, tmps, ps, a, b, d⟩) => nE (hset H en.L (.loop ⟨.busy, p, fn, tmps, ps, a, b, d⟩)) fun H => b0X en.L (ih E en.b f H)
 | _ => .no
def rS (ih : pE) (E : List LEnv) (en : LEnv) (r : Rc) : Rs := match r with
 | .ok .normal f H => yJ ih E en f H
 | _ => .no
def a8x (ih : pE) (E : List LEnv) (L : Nat) (args : List Value) (H : Heap) : Rs := match b5e E L with
 | some en => match iP H L with
   | some (.loop ⟨.ready, _, _, ⟨tmps⟩, ps, _, _, _⟩) => nG (a3g args ps.size) .no (oM .no tmps en.ps .e fun f => oM .no args en.pp f fun f => rS ih E en (ih E en.a f H))
   | _ => .no
 | none => .no
def zN (P : Program) (T : LT) (ih : pE) (E : List LEnv) : Calls' := ⟨b5J P T ih E, a8x ih E⟩
def c5o (_ : Fr) (_ : Heap) : Rc := .no
def c2y (f : Fr) (H : Heap) : Rc := .ok .normal f H
def c4j (P : Program) (T : LT) (ih : pE) (E : List LEnv) (ops : LOps) (f : Fr) (H : Heap) : Rc := c2E (wX P (zN P T ih E) ops f H)
def c5y (P : Program) (T : LT) (ih : pE) (E : List LEnv) (ops : LOps) (tab : List (Nat × Option Nat × Option (Pth × Bool) × LOp)) (f : Fr) (H : Heap) : Rc := b8Y P (zN P T ih E) tab (qJ P (zN P T ih E) ops [] f H)
def b6t (ih : pE) (E : List LEnv) (b : LCode) (r : Rc) : Rc := match r with
 | .ok .normal f H => ih E b f H
 | r => r
def c5d (ih : pE) (E : List LEnv) (a b : LCode) (_ _ : Fr → Heap → Rc) (f : Fr) (H : Heap) : Rc := b6t ih E b (ih E a f H)
def b5h (ih : pE) (E : List LEnv) (c : LArg) (x y : LCode) (_ _ : Fr → Heap → Rc) (f : Fr) (H : Heap) : Rc := match mI f c with
 | .bool t => ih E (Bool.rec (motive := fun _ => LCode) y x t) f H
 | _ => .no
def c3Y (id : Nat) (r : Rc) : Rc := match r with
 | .ok (.exit i) f H => .ok (Bool.rec (motive := fun _ => Ex) (.exit i) .normal (Nat.beq i id)) f H
 | r => r
def c0A (ih : pE) (E : List LEnv) (id : Nat) (b : LCode) (_ : Fr → Heap → Rc) (f : Fr) (H : Heap) : Rc := c3Y id (ih E b f H)
def c1W (ih : pE) (E : List LEnv) (b : LCode) (_ : Fr → Heap → Rc) (f : Fr) (H : Heap) : Rc := b6t ih E (.loop b) (ih E b f H)
def c2J (id : Nat) (f : Fr) (H : Heap) : Rc := .ok (.exit id) f H
def c4Z (f : Fr) (H : Heap) : Rc := .ok .ret f H
def frL {α : Type} (f : Fr) (ps : List Pth) : (List Value → α) → α := List.rec (motive := fun _ => (List Value → α) → α) (fun K => K []) (fun p _ ih K => nP (nH p f) fun v => ih fun l => K (v :: l)) ps
def sY (L : Nat) (f : Fr) (H : Heap) : Rc := match iP H L with
 | some (.loop ⟨.ready, none, fn, tmps, ps, a, b, d⟩) => nE (hset H L (.loop ⟨.exhausted, none, fn, tmps, ps, a, b, d⟩)) fun H => .ok .normal f H
 | some (.loop ⟨.done, none, fn, tmps, ps, a, b, d⟩) => nE (hset H L (.loop ⟨.exhausted, none, fn, tmps, ps, a, b, d⟩)) fun H => .ok .normal f H
 | some (.loop ⟨.done, some .ret, fn, tmps, ps, a, b, d⟩) => nE (hset H L (.loop ⟨.exhausted, some .ret, fn, tmps, ps, a, b, d⟩)) fun H => .ok .ret f H
 | some (.loop ⟨.done, some (.exit id), fn, tmps, ps, a, b, d⟩) => nE (hset H L (.loop ⟨.exhausted, some (.exit id), fn, tmps, ps, a, b, d⟩)) fun H => .ok (.exit id) f H
 | _ => .no
def b2l (L : Nat) (f : Fr) (r : Rs) : Rc := match r with
 | .no => .no
 | .ok _ H => sY L f H
 | .th _ H => nE H fun H => sY L f H
def b0h (T : LT) (ih : pE) (E : List LEnv) (f : Fr) (L : Nat) (k : FuncId) (args : List Value) (H : Heap) : Rc := lJ (kN k) fun p => b2l L f (mJ T ih E p args H)
def a9v (T : LT) (ih : pE) (E : List LEnv) (g : LArg) (ps pp : List Pth) (params : Array Tmp) (assign body : Code) (a b : LCode) (_ _ : Fr → Heap → Rc) (f : Fr) (H : Heap) : Rc := match mI f g with
 | .func (.func k) ⟨x⟩ ⟨y⟩ => kA H.length fun L => frL f ps fun l => nE (H.cons (.loop ⟨.ready, none, 0, ⟨l⟩, params, assign, body, 0⟩)) fun H1 =>
    kA k fun k => b0h T ih (⟨L, ps, pp, a, b⟩ :: E) f L k (a4d x (.func (.yield L) #[] #[] :: y)) H1
 | _ => .no
def a9Z (P : Program) (T : LT) (ih : pE) (E : List LEnv) (c : LCode) : Fr → Heap → Rc :=
 LCode.rec (motive := fun _ => Fr → Heap → Rc) c5o c2y (c4j P T ih E) (c5y P T ih E) (c5d ih E) (b5h ih E) (c0A ih E) (c1W ih E) c2J c4Z (a9v T ih E) c
def exF (P : Program) (T : LT) (n : Nat) : pE := Nat.rec (motive := fun _ => pE) (fun _ _ _ _ => .no) (fun _ ih => a9Z P T ih) n
section
variable {α : Type}
def lM (x : Operand) (K : LArg → α) : α := match x with
 | .tmp t => lJ (kN t) fun p => K (.t p)
 | .const v => K (.c v)
 | .global g => K (.c (.pointer (some ⟨g, 0, none⟩)))
 | .func k => K (.c (.func (.func k) #[] #[]))
def a4b (l : List Operand) : (List LArg → α) → α := List.rec (motive := fun _ => (List LArg → α) → α) (fun K => K []) (fun x _ ih K => lM x fun x => ih fun l => K (x :: l)) l
def a2s (o : Option Nat) (d : α) (K : Nat → α) : α := match o with
 | some n => kA n K
 | none => d
def c5p (k : IntKind) (a b : Int) : Option Value := some (.int k (vI k (b8f a b)))
def c4O (k : IntKind) (a b : Int) : Option Value := some (.int k (vI k (b6E a b)))
def c2a (a b : Int) : Int := match a, b with
 | .ofNat a, .ofNat b => .ofNat (Nat.mul a b)
 | a, b => a * b
def c3W (k : IntKind) (a b : Int) : Option Value := some (.int k (vI k (c2a a b)))
def c3D (a b : Int) : Int := match a, b with
 | .ofNat a, .ofNat b => .ofNat (Nat.div a b)
 | a, b => a.tdiv b
def c2M (a b : Int) : Int := match a, b with
 | .ofNat a, .ofNat b => .ofNat (Nat.mod a b)
 | a, b => a.tmod b
def b7b (k : IntKind) (a b : Int) : Option Value := match eqI b 0 with | true => none | false => some (.int k (vI k (c3D a b)))
def b7r (k : IntKind) (a b : Int) : Option Value := match eqI b 0 with | true => none | false => some (.int k (c2M a b))
def c4k (_ : IntKind) (a b : Int) : Option Value := some (.bool (eqI a b))
def c4p (_ : IntKind) (a b : Int) : Option Value := some (.bool (!eqI a b))
def c5g (_ : IntKind) (a b : Int) : Option Value := some (.bool (ltI a b))
def c4S (_ : IntKind) (a b : Int) : Option Value := some (.bool (!ltI b a))
def c5l (_ : IntKind) (a b : Int) : Option Value := some (.bool (ltI b a))
def c4L (_ : IntKind) (a b : Int) : Option Value := some (.bool (!ltI a b))
def b7e (op : BinOp) : Option (IntKind → Int → Int → Option Value) := match op with
 | .add => some c5p
 | .sub => some c4O
 | .mul => some c3W
 | .quo => some b7b
 | .rem => some b7r
 | .eql => some c4k
 | .neq => some c4p
 | .lss => some c5g
 | .leq => some c4S
 | .gtr => some c5l
 | .geq => some c4L
 | _ => none
def c0C (d : Option TypeDesc) : Bool := match d with | some (.int _) => true | _ => false
def c5C (P : Program) (s : TypeId) (f : Nat) (d : α) (K1 : Nat → α) (Kn : Nat → Nat → α) : α := match nR P s f with
 | some fd => kA fd.offset fun off => match jM P fd.type with
   | some true => a2s (iD P fd.type) d fun n => Kn off n
   | some false => K1 off
   | none => d
 | none => d
def b4Z (P : Program) (o : Oper) (c : Call) (K : LOp → α) : α := match c.callee with
 | .value (.func k) => lJ (kN k) fun p => a4b c.args.toList fun l => K (.callF k p l)
 | .value g => lM g fun g => a4b c.args.toList fun l => K (.callV g l)
 | .builtin .len => nG (c.args.size == 1 && c.argTypes.size == 1) (K (.gen o)) (match P.underlying (c.argTypes.getD 0 0) with
    | some (.slice _) => lM (c.args.getD 0 (.tmp 0)) fun x => K (.len x)
    | some .string => lM (c.args.getD 0 (.tmp 0)) fun x => K (.slen x)
    | _ => K (.gen o))
 | .builtin .append => nG (c.args.size == 2 && c.argTypes.size == 2 && ((P.underlying (c.argTypes.getD 1 0)).map pA) == some true) (K (.gen o))
    (match iJ P (c.argTypes.getD 0 0) with
     | some elem => a2s (iD P elem) (K (.gen o)) fun size => a2s (nD P elem) (K (.gen o)) fun bytes => match iY P elem with
       | some z => nG (z.cells.size == size && size != 0) (K (.gen o)) (kA elem fun elem => lM (c.args.getD 0 (.tmp 0)) fun x => lM (c.args.getD 1 (.tmp 0)) fun y => K (.app elem size bytes x y))
       | none => K (.gen o)
     | none => K (.gen o))
 | _ => K (.gen o)
def c2o (P : Program) (o : Oper) (K : LOp → α) : α := match o.op with
 | .move x => lM x fun x => K (.mv x)
 | .assign x => lM x fun x => K (.mv x)
 | .pick c a b => lM c fun c => lM a fun a => lM b fun b => K (.pick c a b)
 | .binOp op t x y _ => nG (c0C (P.underlying t)) (K (.gen o)) (match b7e op with
   | some g => lM x fun x => lM y fun y => K (.bin g x y)
   | none => K (.gen o))
 | .load t x => match jM P t with
   | some true => a2s (iD P t) (K (.gen o)) fun n => lM x fun x => K (.ldn n x)
   | some false => lM x fun x => K (.ld1 x)
   | none => K (.gen o)
 | .store t x y => a2s (iD P t) (K (.gen o)) fun n => lM x fun x => lM y fun y => K (.st n x y)
 | .fieldAddr s x f => match nR P s f with
   | some fd => match iD P fd.type with
     | some 0 => K (.gen o)
     | some _ => kA fd.offset fun off => lM x fun x => K (.fa off x)
     | none => K (.gen o)
   | none => K (.gen o)
 | .indexAddr t x i => match P.underlying t with
   | some (.slice elem) => a2s (iD P elem) (K (.gen o)) fun size => lM x fun x => lM i fun i => K (.ixs size x i)
   | some (.array n elem) => a2s (iD P elem) (K (.gen o)) fun size => lM x fun x => lM i fun i => K (.ixa n size x i)
   | _ => K (.gen o)
 | .extract t i => kA i fun i => lM t fun t => K (.ext i t)
 | .call c => b4Z P o c K
 | _ => K (.gen o)
def xM (P : Program) (o : Oper) (K : LOp → α) : α := nG (o.op.operands.toList.all iN) (K .bad) (c2o P o K)
def a7o (k : Nat) (d : Option Tmp) (no : α) (K : Option Pth → α) : α := match d with
 | none => K none
 | some t => nG (Nat.blt t k) no (lJ (kN t) fun p => K (some p))
def tS (P : Program) (k : Nat) (ops : Array Oper) (l : List Oper) : (LOps → α) → α → α := List.rec (motive := fun _ => (LOps → α) → α → α) (fun K _ => K .nil)
 (fun o _ ih K no => a7o k o.dst no fun d => xM P o fun o' => match o.guard with
   | none => ih (fun r => K (.cons d o' r)) no
   | some (j, w) => match (ops[j]?).bind (·.dst) with
     | some t => nG (Nat.blt t k) no (lJ (kN t) fun p => zK w fun w => ih (fun r => K (.gcons p w d o' r)) no)
     | none => no) l
def loG (k : Nat) (ops : Array Oper) (g : Option (Nat × Bool)) (no : α) (K : Option (Pth × Bool) → α) : α := match g with
 | none => K none
 | some (j, w) => match (ops[j]?).bind (·.dst) with
   | some t => nG (Nat.blt t k) no (lJ (kN t) fun p => zK w fun w => K (some (p, w)))
   | none => no
def sH (P : Program) (k : Nat) (ops : Array Oper) (N : Nat) (tab : List (Nat × Nat)) : (List (Nat × Option Nat × Option (Pth × Bool) × LOp) → α) → α → α := List.rec (motive := fun _ => (List (Nat × Option Nat × Option (Pth × Bool) × LOp) → α) → α → α) (fun K _ => K [])
 (fun x _ ih K no => match ops[x.1]? with
   | some o => loG k ops o.guard no fun g => xM P o fun o' => kA (N - 1 - x.1) fun i => nG (Nat.blt x.2 N) (ih (fun l => K ((i, none, g, o') :: l)) no) (kA (N - 1 - x.2) fun m => ih (fun l => K ((i, some m, g, o') :: l)) no)
   | none => no) tab
def b3V (k : Nat) : (List Pth → α) → α := Nat.rec (motive := fun _ => (List Pth → α) → α) (fun K => K []) (fun n ih K => lJ (kN n) fun p => ih fun l => K (p :: l)) k
def b9F {β : Type} (l : List β) : List β → (List β → α) → α := List.rec (motive := fun _ => List β → (List β → α) → α) (fun a K => K a) (fun x _ ih a K => ih (x :: a) K) l
def b2b (k : Nat) (K : List Pth → α) : α := b3V k fun l => b9F l [] K
def vJ (k : Nat) (l : List Tmp) : (List Pth → α) → α → α := List.rec (motive := fun _ => (List Pth → α) → α → α) (fun K _ => K []) (fun t _ ih K no => nG (Nat.blt t k) no (lJ (kN t) fun p => ih (fun l => K (p :: l)) no)) l
def mU (P : Program) (k : Nat) (c : Code) : (LCode → α) → α := Code.rec (motive := fun _ => (LCode → α) → α)
 (fun K => K .skip)
 (fun _ ops d K => Bool.rec (motive := fun _ => α) (tS P k ops ops.toList (fun l => K (.reg l)) (K .bad))
   (match mT P ops with
     | some [] => tS P k ops ops.toList (fun l => K (.reg l)) (K .bad)
     | some tab => tS P k ops ops.toList (fun l => sH P k ops ops.size tab (fun t => K (.drw l t)) (K .bad)) (K .bad)
     | none => K .bad) d)
 (fun _ _ iha ihb K => iha fun a => ihb fun b => K (.seq a b))
 (fun c _ _ ihx ihy K => nG (iN c) (K .bad) (lM c fun c => ihx fun x => ihy fun y => K (.cond c x y)))
 (fun id _ ih K => kA id fun id => ih fun b => K (.block id b))
 (fun _ ih K => ih fun b => K (.loop b))
 (fun g ps assign body iha ihb K => nG (iN g) (K .bad) (lM g fun g' => b2b k fun pp => vJ k ps.toList (fun q => iha fun a => ihb fun b => K (.range g' pp q ps assign body a b)) (K .bad)))
 (fun id K => kA id fun id => K (.exit id))
 (fun _ _ K => K .bad)
 (fun _ K => K .skip)
 (fun _ K => K .bad)
 (fun K => K .ret)
 (fun _ K => K .bad) c
def a0f (P : Program) (l : List ResultVar) : (List LRes → α) → α → α := List.rec (motive := fun _ => (List LRes → α) → α → α) (fun K _ => K [])
 (fun r _ ih K no => match r with
   | .tmp t => lJ (kN t) fun p => ih (fun l => K (.t p :: l)) no
   | .cell a t => match jM P t with
     | some true => a2s (iD P t) no fun n => lJ (kN a) fun p => ih (fun l => K (.cn n p :: l)) no
     | some false => lJ (kN a) fun p => ih (fun l => K (.c1 p :: l)) no
     | none => no) l
def a0Z (P : Program) (f : FuncId) (no : α) (K : LFunc → α) : α := match P.funcs[f]? with
 | some fn => match fn.body with
   | some c => nG (fn.name == "runtime.NumGoroutine") (a0f P fn.results.toList (fun res => b2b fn.ntmps fun ps => mU P fn.ntmps c fun b => K ⟨ps, b, res⟩) no) no
   | none => no
 | none => no
def sQ (P : Program) (fs : List FuncId) : LT → (LT → α) → α := List.rec (motive := fun _ => LT → (LT → α) → α) (fun T K => K T)
 (fun f _ ih T K => a0Z P f (ih T K) fun g => lJ (kN f) fun p => rD g p T fun T => ih T K) fs
end
end
end Go.Ds
namespace Go.Ds
section
variable {α : Type}
theorem uF (f k : Nat) : a4h (f + 1) (k + 1) = if k % 2 = 0 then .l (a4h f (k / 2)) else .r (a4h f (k / 2)) := by
 show Bool.rec (motive := fun _ => Pth) (.r (a4h f (k / 2))) (.l (a4h f (k / 2))) (Nat.beq (k % 2) 0) = _
 by_cases h : k % 2 = 0
 ·rw [if_pos h, h]; rfl
 ·rw [if_neg h]
  have : Nat.beq (k % 2) 0 = false := fL.2 fun e => h (dK e)
  rw [this]
theorem a3C (f : Nat) : a4h f 0 = .z := by cases f <;> rfl
theorem a0O : ∀ (f g a b : Nat), a ≤ f → b ≤ g → a4h f a = a4h g b → a = b
 | _, _, 0, 0, _, _, _ => rfl
 | 0, _, a + 1, _, h, _, _ => by omega
 | _, 0, _, b + 1, _, h, _ => by omega
 | f, g + 1, 0, b + 1, _, _, h => by
   rw [a3C, uF] at h
   split at h <;> cases h
 | f + 1, g, a + 1, 0, _, _, h => by
   rw [a3C, uF] at h
   split at h <;> cases h
 | f + 1, g + 1, a + 1, b + 1, ha, hb, h => by
   rw [uF, uF] at h
   by_cases h1 : a % 2 = 0
   ·rw [if_pos h1] at h
    by_cases h2 : b % 2 = 0
    ·rw [if_pos h2] at h
     injection h with h
     have := a0O f g (a / 2) (b / 2) (by omega) (by omega) h
     omega
    ·rw [if_neg h2] at h; cases h
   ·rw [if_neg h1] at h
    by_cases h2 : b % 2 = 0
    ·rw [if_pos h2] at h; cases h
    ·rw [if_neg h2] at h
     injection h with h
     have := a0O f g (a / 2) (b / 2) (by omega) (by omega) h
     omega
theorem b0r {a b : Nat} (h : kN a = kN b) : a = b := a0O _ _ _ _ (db _) (db _) h
theorem lG (p : Pth) (K : Pth → α) : lJ p K = K p := by
 induction p generalizing K with
 | z => rfl
 | l p ih => exact ih _
 | r p ih => exact ih _
theorem mK (v : Value) (K : Value → α) : nP v K = K v := by cases v <;> rfl
theorem rM (v : Value) (p : Pth) (f : Fr) (K : Fr → α) : pB v p f K = K (pB v p f fun f => f) := by
 induction p generalizing f α with
 | z => cases f <;> rfl
 | l p ih =>
   cases f with
   | e =>
     show pB v p .e (fun l => K (.n undef l .e)) = K (pB v p .e fun l => .n undef l .e)
     rw [ih, ih (K := fun l => Fr.n undef l .e)]
   | n w l r =>
     show pB v p l (fun l => K (.n w l r)) = K (pB v p l fun l => .n w l r)
     rw [ih, ih (K := fun l => Fr.n w l r)]
 | r p ih =>
   cases f with
   | e =>
     show pB v p .e (fun l => K (.n undef .e l)) = K (pB v p .e fun l => .n undef .e l)
     rw [ih, ih (K := fun l => Fr.n undef .e l)]
   | n w l r =>
     show pB v p r (fun r => K (.n w l r)) = K (pB v p r fun r => .n w l r)
     rw [ih, ih (K := fun r => Fr.n w l r)]
theorem tX (p : Pth) : nH p .e = undef := by
 cases p <;> rfl
theorem b1Z (v : Value) (p q : Pth) (f : Fr) : (q = p → nH q (pB v p f fun f => f) = v) ∧ (q ≠ p → nH q (pB v p f fun f => f) = nH q f) := by
 induction p generalizing f q with
 | z =>
   refine ⟨fun h => ?_, fun h => ?_⟩
   ·subst h; cases f <;> rfl
   ·cases q with
    | z => exact absurd rfl h
    | l q =>
      cases f with
      | e => show nH q .e = undef; exact tX q
      | n => rfl
    | r q =>
      cases f with
      | e => show nH q .e = undef; exact tX q
      | n => rfl
 | l p ih =>
   have h1 : ∀ f, pB v (.l p) f (fun f => f) = match f with | .e => .n undef (pB v p .e fun f => f) .e | .n w l r => .n w (pB v p l fun f => f) r := fun f => by
    cases f with
    | e => exact rM v p .e fun l => Fr.n undef l .e
    | n w l r => exact rM v p l fun l => Fr.n w l r
   rw [h1]
   cases q with
   | z => exact ⟨fun h => (nomatch h), fun _ => by cases f <;> rfl⟩
   | r q =>
     refine ⟨fun h => (nomatch h), fun _ => ?_⟩
     cases f with
     | e => show nH q .e = undef; exact tX q
     | n => rfl
   | l q =>
     refine ⟨fun h => ?_, fun h => ?_⟩
     ·injection h with h
      cases f with
      | e => exact (ih q .e).1 h
      | n w l r => exact (ih q l).1 h
     ·have h : q ≠ p := fun e => h (by rw [e])
      cases f with
      | e => show nH q (pB v p .e fun f => f) = undef; rw [(ih q .e).2 h, tX]
      | n w l r => exact (ih q l).2 h
 | r p ih =>
   have h1 : ∀ f, pB v (.r p) f (fun f => f) = match f with | .e => .n undef .e (pB v p .e fun f => f) | .n w l r => .n w l (pB v p r fun f => f) := fun f => by
    cases f with
    | e => exact rM v p .e fun l => Fr.n undef .e l
    | n w l r => exact rM v p r fun r => Fr.n w l r
   rw [h1]
   cases q with
   | z => exact ⟨fun h => (nomatch h), fun _ => by cases f <;> rfl⟩
   | l q =>
     refine ⟨fun h => (nomatch h), fun _ => ?_⟩
     cases f with
     | e => show nH q .e = undef; exact tX q
     | n => rfl
   | r q =>
     refine ⟨fun h => ?_, fun h => ?_⟩
     ·injection h with h
      cases f with
      | e => exact (ih q .e).1 h
      | n w l r => exact (ih q r).1 h
     ·have h : q ≠ p := fun e => h (by rw [e])
      cases f with
      | e => show nH q (pB v p .e fun f => f) = undef; rw [(ih q .e).2 h, tX]
      | n w l r => exact (ih q r).2 h
def FAg (f : Fr) (l : List Value) : Prop := ∀ t, nH (kN t) f = get l t
def FRel (k : Nat) (f : Fr) (l : List Value) : Prop := l.length = k ∧ FAg f l
noncomputable def b3z (f : Fr) (t : Tmp) (v : Value) : Fr := pB v (kN t) f fun f => f
theorem a3h (f : Fr) (t u : Tmp) (v : Value) : nH (kN u) (b3z f t v) = if u = t then v else nH (kN u) f := by
 have h := b1Z v (kN t) (kN u) f
 by_cases he : u = t
 ·rw [if_pos he]; exact h.1 (by rw [he])
 ·rw [if_neg he]; exact h.2 (fun e => he (b0r e))
theorem FRel.put {k : Nat} {f : Fr} {l : List Value} (h : FRel k f l) {t : Tmp} (ht : t < k) (v : Value) : FRel k (b3z f t v) (Go.Ds.put l (some t) v) := by
 refine ⟨by simp [Go.Ds.put, mR, h.1], fun u => ?_⟩
 rw [a3h, a9Y]
 by_cases he : u = t
 ·subst he; rw [if_pos rfl, if_pos ⟨rfl, by rw [h.1]; exact ht⟩]
 ·rw [if_neg he, if_neg (fun hh => he (cS hh.1).symm)]; exact h.2 u
theorem FRel.set {k : Nat} {f : Fr} {l : List Value} (h : FRel k f l) {t : Tmp} (ht : t < k) (v : Value) : FRel k (b3z f t v) (l.set t v) := by
 have := h.put ht v
 simpa [Go.Ds.put, mR] using this
def Rs.Is (r : Rs) (v : Value) (H : Heap) : Prop := r = .ok v H ∨ r = .th v H
theorem Rs.ar {v : Value} {H : Heap} : ¬ Rs.no.Is v H := by rintro (h | h) <;> cases h
theorem Rs.aL {v w : Value} {H H1 : Heap} (h : (Rs.ok v H).Is w H1) : w = v ∧ H1 = H := by
 rcases h with h | h
 ·injection h with a b; exact ⟨a.symm, b.symm⟩
 ·cases h
theorem Rs.aP {v w : Value} {H H1 : Heap} (h : (Rs.th v H).Is w H1) : w = v ∧ H1 = H := by
 rcases h with h | h
 ·cases h
 ·injection h with a b; exact ⟨a.symm, b.symm⟩
theorem kJ (b : Bool) (no x : α) : nG b no x = if b = true then x else no := by cases b <;> rfl
theorem kZ {b : Bool} {x : Rs} {v : Value} {H : Heap} (h : (nG b Rs.no x).Is v H) : b = true ∧ x.Is v H := by
 cases b with
 | false => exact absurd h Rs.ar
 | true => exact ⟨rfl, h⟩
theorem xI {β : Type} : ∀ (cs : List β) (e : Nat), a5k cs e = decide (e ≤ cs.length)
 | [], 0 => rfl
 | [], e + 1 => by simp; rfl
 | _ :: _, 0 => rfl
 | _ :: cs, e + 1 => by show a5k cs e = _; rw [xI cs e]; simp
theorem wW {β : Type} : ∀ (cs : List β) (e : Nat), a3g cs e = decide (e = cs.length)
 | [], 0 => rfl
 | [], e + 1 => by simp; rfl
 | _ :: _, 0 => by simp; rfl
 | _ :: cs, e + 1 => by show a3g cs e = _; rw [wW cs e]; simp
theorem xA {β : Type} : ∀ (cs : List β) (e : Nat), a0x cs e = cs[e]?
 | [], _ => rfl
 | _ :: _, 0 => rfl
 | _ :: cs, e + 1 => by show a0x cs e = _; rw [xA cs e]; simp
theorem a6B {β : Type} : ∀ (cs : List β) (e : Nat), b0F cs e = cs.drop e
 | [], e => by cases e <;> rfl
 | _ :: _, 0 => rfl
 | _ :: cs, e + 1 => by show b0F cs e = _; rw [a6B cs e]; rfl
theorem a5q {β : Type} : ∀ {cs : List β} {n : Nat} {K : List β → Rs} {v : Value} {H : Heap}, (a0N cs n K).Is v H → n ≤ cs.length ∧ (K (cs.take n)).Is v H
 | [], 0, K, v, H, h => ⟨db _, h⟩
 | [], n + 1, K, v, H, h => absurd h Rs.ar
 | _ :: _, 0, K, v, H, h => ⟨eK _, h⟩
 | c :: cs, n + 1, K, v, H, h => by
   have h' : (a0N cs n fun l => K (c :: l)).Is v H := h
   obtain ⟨h1, h2⟩ := a5q h'
   exact ⟨by simp; omega, h2⟩
theorem b6i {a b : IntKind} (h : Nat.beq (kIx a) (kIx b) = true) : a = b := by
 cases a <;> cases b <;> first | rfl | (exact absurd h (by decide))
theorem b4b (k : Nat) (K : List Pth → α) : b3V k K = K ((List.range k).map kN).reverse := by
 induction k generalizing K with
 | zero => rfl
 | succ n ih =>
   show lJ (kN n) (fun p => b3V n fun l => K (p :: l)) = _
   rw [lG, ih, ed]
   simp
theorem b7u {β : Type} (l : List β) : ∀ (a : List β) (K : List β → α), b9F l a K = K (l.reverse ++ a) := by
 induction l with
 | nil => intro a K; rfl
 | cons x l ih => intro a K; show b9F l (x :: a) K = _; rw [ih]; simp
theorem b0H (k : Nat) (K : List Pth → α) : b2b k K = K ((List.range k).map kN) := by
 unfold b2b; rw [b4b, b7u]; simp
theorem oG (n : Nat) (d : α) (K : Nat → α) : a2s (some n) d K = K n := jW n K
def LK (H H' : Heap) : Prop := H.length ≤ H'.length ∧ ∀ A r', A < H.length → iP H' A = some (.loop r') →
 ∃ r, iP H A = some (.loop r) ∧ r'.assign = r.assign ∧ r'.body = r.body ∧ r'.params = r.params ∧ r'.tmps = r.tmps
theorem LK.refl (H : Heap) : LK H H := ⟨db _, fun _ r _ h => ⟨r, h, rfl, rfl, rfl, rfl⟩⟩
theorem LK.trans {H H1 H2 : Heap} (h : LK H H1) (k : LK H1 H2) : LK H H2 := ⟨dw h.1 k.1, fun A r' hA hr => by
 obtain ⟨r1, h1, a1, b1, c1, d1⟩ := k.2 A r' (dA hA h.1) hr
 obtain ⟨r, h2, a2, b2, c2, d2⟩ := h.2 A r1 hA h1
 exact ⟨r, h2, a1.trans a2, b1.trans b2, c1.trans c2, d1.trans d2⟩⟩
def Blk.ca : Blk → Bool
 | .loop _ => true
 | _ => false
theorem LK.hset (H : Heap) (A : Nat) {b : Blk} (hb : b.ca = false) : LK H (hset H A b) := by
 refine ⟨by rw [jK]; exact db _, fun B r' hB h => ?_⟩
 by_cases he : A = B
 ·subst he; rw [iQ _ hB] at h; injection h with h; subst h; cases hb
 ·rw [iZ _ he] at h; exact ⟨r', h, rfl, rfl, rfl, rfl⟩
theorem LK.cons (H : Heap) (b : Blk) : LK H (H.cons b) := by
 refine ⟨by rw [length_cons]; omega, fun B r' hB h => ?_⟩
 rw [jN b hB] at h; exact ⟨r', h, rfl, rfl, rfl, rfl⟩
theorem LK.row (H : Heap) (ty : TypeId) (cs : List Value) : LK H (qR H ty cs) := by rw [lE]; exact .cons _ _
theorem LK.loop {H : Heap} {L : Nat} {r r' : Loop} (h : iP H L = some (.loop r)) (e : r'.assign = r.assign ∧ r'.body = r.body ∧ r'.params = r.params ∧ r'.tmps = r.tmps) : LK H (Go.Ds.hset H L (.loop r')) := by
 refine ⟨by rw [jK]; exact db _, fun B r2 hB hg => ?_⟩
 by_cases he : L = B
 ·subst he; rw [iQ _ hB] at hg; injection hg with hg; injection hg with hg; subst hg; exact ⟨r, h, e⟩
 ·rw [iZ _ he] at hg; exact ⟨r2, hg, rfl, rfl, rfl, rfl⟩
variable {P : Program}
theorem a6k {H H' : Heap} {t : TypeId} {p v : Value} (h : pS P H t p v = some H') : LK H H' := by
 unfold pS at h
 split at h
 ·split at h
  ·dsimp only at h
   split at h
   ·injection h with h; subst h; exact .hset _ _ rfl
   ·cases h
  ·cases h
 ·cases h
theorem a2O {H H' : Heap} {t : TypeId} {v r : Value} (h : vX P H t v = some (r, H')) : LK H H' := by
 unfold vX at h
 dsimp only at h
 split at h
 ·injection h with h; injection h with _ h; subst h; exact .row _ _ _
 ·cases h
theorem a4e {H H' : Heap} {t : TypeId} {s x r : Value} (h : nA P H t s x = some (r, H')) : LK H H' := by
 unfold nA at h
 simp only [cV] at h
 obtain ⟨elem, _, size, _, bytes, _, z, _, ⟨n, l⟩, _, h⟩ := h
 try dsimp only at h
 split at h
 ·split at h
  ·split at h
   ·injection h with h; injection h with _ h; subst h; exact .refl _
   ·injection h with h; injection h with _ h; subst h; exact .row _ _ _
  ·cases h
 ·split at h
  ·split at h
   ·injection h with h; injection h with _ h; subst h; exact .hset _ _ rfl
   ·split at h
    ·injection h with h; injection h with _ h; subst h; exact .hset _ _ rfl
    ·cases h
  ·cases h
 ·cases h
theorem a5V {H H' : Heap} {t : TypeId} {v r : Value} (h : pR P H t v = some (r, H')) : LK H H' := by
 unfold pR at h
 split at h
 ·dsimp only at h
  rename_i n elem _
  have key : ∀ (b : Bool), (if b = true then some (Value.pointer (some ⟨H.length, 0, some v.cells.toList.length⟩), b3l H elem v.cells.toList) else none) = some (r, H') → LK H H' := by
   intro b h
   cases b
   ·cases h
   ·injection h with h; injection h with _ h; subst h; rw [a0D]; exact .cons _ _
  exact key _ h
 ·exact a2O h
theorem a4M {H H' : Heap} {t : TypeId} {x y r : Value} (h : uH P H t x y = some (r, H')) : LK H H' := by
 unfold uH at h
 split at h
 ·split at h
  ·split at h
   ·simp only [da] at h
    obtain ⟨_, _, h⟩ := h
    injection h with _ h; subst h; exact .hset _ _ rfl
   ·cases h
  ·cases h
 ·cases h
theorem a4t {H H' : Heap} {k : FuncId} {args : List Value} {r : Value} (h : pI P k args H = some (r, H')) : LK H H' := by
 unfold pI at h
 simp only [cV] at h
 obtain ⟨fn, _, h⟩ := h
 split at h
 case isFalse => cases h
 split at h
 ·split at h
  ·injection h with h; injection h with _ h; subst h; exact .refl _
  ·cases h
 split at h
 ·split at h
  ·split at h
   ·simp only [cV] at h
    obtain ⟨_, _, h⟩ := h
    split at h
    ·injection h with h; injection h with _ h; subst h; exact .row _ _ _
    ·cases h
   ·cases h
  ·cases h
 split at h
 ·split at h
  ·split at h
   ·split at h
    ·injection h with h; injection h with _ h; subst h; exact .refl _
    ·cases h
   ·cases h
  ·cases h
 ·cases h
theorem a8n {H H' : Heap} {t : TypeId} {s x r : Value} (h : a0g P H t s x = some (r, H')) : LK H H' := by
 unfold a0g at h
 simp only [cV] at h
 obtain ⟨elem, _, size, _, m, _, h⟩ := h
 try dsimp only at h
 split at h
 ·split at h
  ·injection h with h; injection h with _ h; subst h; exact .refl _
  ·cases h
 ·split at h
  ·injection h with h; injection h with _ h; subst h; exact .refl _
  ·simp only [cV] at h
   obtain ⟨l, _, h⟩ := h
   split at h
   ·split at h
    ·injection h with h; injection h with _ h; subst h; exact .hset _ _ rfl
    ·cases h
   ·cases h
 ·cases h
theorem a5y {H H' : Heap} {t : TypeId} {x r : Value} (h : rZ P H t x = some (r, H')) : LK H H' := by
 unfold rZ at h
 simp only [cV] at h
 obtain ⟨elem, _, z, _, h⟩ := h
 split at h
 ·injection h with h; injection h with _ h; subst h; exact .refl _
 ·split at h
  ·injection h with h; injection h with _ h; subst h; exact .refl _
  ·try dsimp only at h
   split at h
   ·split at h
    ·injection h with h; injection h with _ h; subst h; exact .hset _ _ rfl
    ·cases h
   ·cases h
 ·cases h
theorem b2v {H H' : Heap} {t : TypeId} {m k v : Value} (h : a0u P H t m k v = some H') : LK H H' := by
 unfold a0u at h
 simp only [cV] at h
 obtain ⟨⟨kt, et⟩, _, h⟩ := h
 dsimp only at h
 split at h
 ·split at h
  ·split at h
   ·simp only [cV] at h
    obtain ⟨r, _, h⟩ := h
    split at h
    ·simp only [cV] at h
     obtain ⟨e, _, h⟩ := h
     split at h
     ·injection h with h; subst h; exact .hset _ _ rfl
     ·cases h
    ·injection h with h; subst h; exact .hset _ _ rfl
   ·cases h
  ·cases h
 ·cases h
theorem a6N {H H' : Heap} {t : TypeId} {m k r : Value} (h : rP P H t m k = some (r, H')) : LK H H' := by
 unfold rP at h
 simp only [cV] at h
 obtain ⟨⟨kt, et⟩, _, h⟩ := h
 dsimp only at h
 split at h
 ·split at h
  ·split at h
   ·simp only [cV] at h
    obtain ⟨r, _, h⟩ := h
    split at h
    ·simp only [cV] at h
     obtain ⟨e, _, h⟩ := h
     split at h
     ·injection h with h; injection h with _ h; subst h; exact .hset _ _ rfl
     ·cases h
    ·simp only [cV] at h
     obtain ⟨z, _, h⟩ := h
     split at h
     ·injection h with h; injection h with _ h; subst h; exact .hset _ _ rfl
     ·cases h
   ·cases h
  ·cases h
 ·cases h
theorem a6g {H H' : Heap} {m b v : Value} (h : qS H m b v = some H') : LK H H' := by
 unfold qS at h
 split at h
 ·split at h
  ·split at h
   ·simp only [cV] at h
    obtain ⟨e, _, h⟩ := h
    injection h with h; subst h; exact .hset _ _ rfl
   ·cases h
  ·cases h
 ·cases h
theorem a2y {H H' : Heap} {t : TypeId} {o : Option Value} {r : Value} (h : oW P H t o = some (r, H')) : LK H H' := by
 unfold oW at h
 simp only [cV] at h
 obtain ⟨_, _, h⟩ := h
 split at h
 ·injection h with h; injection h with _ h; subst h; exact .cons _ _
 ·injection h with h; injection h with _ h; subst h; exact .cons _ _
 ·cases h
theorem a6d {H H' : Heap} {o : Oper} {l : List Value} {r : Value} (h : kH P o l H = some (r, H')) : H' = H := by
 unfold kH at h
 split at h
 ·split at h
  ·split at h
   ·injection h with h; injection h with _ h; exact h.symm
   ·cases h
  ·cases h
 ·cases h
theorem uI {H H' : Heap} {v r : Value} (h : some (v, H) = some (r, H')) : LK H H' := by injection h with h; injection h with _ h; subst h; exact .refl _
theorem tU {H H' : Heap} {v : Option Value} {r : Value} (h : v.map (fun v => (v, H)) = some (r, H')) : LK H H' := by
 cases v with
 | none => cases h
 | some v => exact uI h
set_option maxHeartbeats 1000000 in
theorem b5O {H H' : Heap} {o : Oper} {l : List Value} {r : Value} (h : opD P o l H = some (r, H')) : LK H H' := by
 obtain ⟨dst, op, type, pos, after, guard⟩ := o
 have pl : ∀ {o : Oper}, kH P o l H = some (r, H') → LK H H' := fun h => by rw [a6d h]; exact .refl _
 cases op with
 | alloc t =>
   simp only [opD, cV] at h
   obtain ⟨z, _, h⟩ := h
   split at h
   ·exact a5V h
   ·cases h
 | box t x => simp only [opD] at h; exact a2O h
 | store t x y =>
   simp only [opD, da] at h
   obtain ⟨H1, h, e⟩ := h
   injection e with _ e; subst e
   exact a6k h
 | mapUpdate t m x y =>
   simp only [opD, da] at h
   obtain ⟨H1, h, e⟩ := h
   injection e with _ e; subst e
   exact b2v h
 | mapEntry t m x => simp only [opD] at h; exact a6N h
 | entryStore t m x y =>
   simp only [opD, da] at h
   obtain ⟨H1, h, e⟩ := h
   injection e with _ e; subst e
   exact a6g h
 | makeMap t x => simp only [opD] at h; exact a2y h
 | buildSlice t len parts =>
   simp only [opD, cV] at h
   obtain ⟨elem, _, size, _, z, _, h⟩ := h
   split at h
   ·injection h with h; injection h with _ h; subst h; exact .row _ _ _
   split at h
   ·simp only [da] at h
    obtain ⟨cs, _, e⟩ := h
    injection e with _ e; subst e
    exact .row _ _ _
   ·cases h
 | makeSlice t n c =>
   simp only [opD, cV] at h
   obtain ⟨elem, _, size, _, bytes, _, z, _, h⟩ := h
   split at h
   ·split at h
    ·injection h with h; injection h with _ h; subst h; exact .row _ _ _
    ·cases h
   ·cases h
 | call c =>
   simp only [opD] at h
   split at h
   ·split at h
    ·split at h
     all_goals first | exact tU h | cases h
    ·cases h
   ·split at h
    ·exact a4e h
    ·cases h
   ·split at h
    ·exact a8n h
    ·cases h
   ·split at h
    ·exact a5y h
    ·cases h
   ·exact pl h
   ·split at h
    ·split at h
     ·split at h
      ·cases h
      ·exact uI h
     ·cases h
    ·cases h
   ·split at h
    ·exact a4M h
    ·cases h
   ·exact pl h
   ·exact pl h
   ·cases h
 | convert s t x =>
   simp only [opD] at h
   split at h
   ·exact pl h
   ·split at h
    ·split at h
     ·exact tU h
     ·cases h
    ·split at h
     ·simp only [cV] at h
      obtain ⟨_, _, h⟩ := h
      injection h with h; injection h with _ h; subst h
      rw [b0q]; exact .cons _ _
     ·cases h
    ·split at h
     ·exact uI h
     ·cases h
    ·cases h
 | slice t x lo hi mx =>
   cases mx with
   | some _ => simp only [opD] at h; cases h
   | none =>
     simp only [opD] at h
     split at h
     ·exact pl h
     ·split at h
      ·exact tU h
      ·exact tU h
 | _ =>
   simp only [opD] at h
   repeat' first
    | exact LK.refl _
    | exact uI h
    | exact tU h
    | exact pl h
    | (cases h; done)
    | split at h
    | (simp only [cV, da] at h; obtain ⟨_, _, h⟩ := h)
    | (obtain ⟨_, _, h⟩ := h)
    | (injection h with h; injection h with _ h; subst h; exact LK.refl _)
    | (injection h with _ h; subst h; exact LK.refl _)
    | (cases h; exact LK.refl _)
end
end Go.Ds
namespace Go.Ds
variable {P : Program}
structure CallsOk (P : Program) (C : Calls') (H0 : Heap) : Prop where
 fn : ∀ p f args H v H1, LK H0 H → (C.fn p f args H).Is v H1 → p = kN f → (FnS P f args H (fun v' H' => v' = v ∧ H' = H1) ∨ pI P f args H = some (v, H1)) ∧ LK H H1
 rd : ∀ L args H v H1, LK H0 H → (C.rd L args H).Is v H1 → yC P L args H v H1 ∧ LK H H1
noncomputable def iU (x : Operand) : LArg := match x with
 | .tmp t => .t (kN t)
 | .const v => .c v
 | .global g => .c (.pointer (some ⟨g, 0, none⟩))
 | .func k => .c (.func (.func k) #[] #[])
theorem kW {α : Type} (x : Operand) (K : LArg → α) : lM x K = K (iU x) := by
 cases x with
 | tmp t => exact lG _ _
 | _ => rfl
theorem jS {f : Fr} {l : List Value} (h : FAg f l) (x : Operand) : mI f (iU x) = ev l x := by
 cases x with
 | tmp t => exact h t
 | _ => rfl
theorem a3w {α : Type} (l : List Operand) (K : List LArg → α) : a4b l K = K (l.map iU) := by
 induction l generalizing K with
 | nil => rfl
 | cons x l ih =>
   show lM x (fun x => a4b l fun l => K (x :: l)) = _
   rw [kW, ih]; rfl
theorem a5R {α : Type} {f : Fr} {l : List Value} (h : FAg f l) (xs : List Operand) (K : List Value → α) : a3e f (xs.map iU) K = K (xs.map (ev l)) := by
 induction xs generalizing K with
 | nil => rfl
 | cons x xs ih =>
   show nP (mI f (iU x)) (fun v => a3e f (xs.map iU) fun l => K (v :: l)) = _
   rw [mK, ih, jS h]; rfl
theorem b9I {f : Fr} {l : List Value} (h : FAg f l) : evF f = ev l := by
 funext x
 cases x with
 | tmp t => exact h t
 | _ => rfl
def vG (P : Program) (o : Oper) (lo : LOp) : Prop := ∀ C H0 f l H v H1, CallsOk P C H0 → LK H0 H → FAg f l → (opF P C lo f H).Is v H1 → StepR P o l H v H1 ∧ LK H H1
def LowPl (P : Program) (o : Oper) (lo : LOp) : Prop := ∀ C f l H v H1, FAg f l → (opF P C lo f H).Is v H1 → opD P o l H = some (v, H1)
theorem LowPl.low {o : Oper} {lo : LOp} (hok : o.op.operands.toList.all iN = true) (h : LowPl P o lo) : vG P o lo :=
 fun C _ f l H v H1 _ _ hf hr => by have := h C f l H v H1 hf hr; exact ⟨.op hok this, b5O this⟩
theorem b7t (o : Oper) : vG P o .bad := fun _ _ _ _ _ _ _ _ _ _ h => absurd h Rs.ar
theorem b8b (o : Oper) : LowPl P o (.gen o) := fun C f l H v H1 hf hr => by
 have hr : (match c0R P o (evF f) H with | some (v, H1) => Rs.th v H1 | none => .no).Is v H1 := hr
 rw [b9I hf] at hr
 have e : c0R P o (ev l) H = opD P o l H := rfl
 rw [e] at hr
 split at hr
 ·rename_i v2 H2 h2
  obtain ⟨rfl, rfl⟩ := Rs.aP hr
  exact h2
 ·exact absurd hr Rs.ar
section
variable {dst : Option Tmp} {type : TypeId} {pos : String} {after : Array Edge} {guard : Option (Nat × Bool)}
theorem c0E (x : Operand) : LowPl P ⟨dst, .move x, type, pos, after, guard⟩ (.mv (iU x)) := fun C f l H v H1 hf hr => by
 have hr : (nP (mI f (iU x)) fun v => Rs.ok v H).Is v H1 := hr
 rw [mK, jS hf] at hr
 obtain ⟨rfl, rfl⟩ := Rs.aL hr
 rfl
theorem b9S (x : Operand) : LowPl P ⟨dst, .assign x, type, pos, after, guard⟩ (.mv (iU x)) := fun C f l H v H1 hf hr => by
 have hr : (nP (mI f (iU x)) fun v => Rs.ok v H).Is v H1 := hr
 rw [mK, jS hf] at hr
 obtain ⟨rfl, rfl⟩ := Rs.aL hr
 rfl
theorem b2Z (c a b : Operand) : LowPl P ⟨dst, .pick c a b, type, pos, after, guard⟩ (.pick (iU c) (iU a) (iU b)) := fun C f l H v H1 hf hr => by
 have hr : (b5Q (iU c) (iU a) (iU b) f H).Is v H1 := hr
 unfold b5Q at hr
 rw [jS hf] at hr
 split at hr
 ·rename_i t ht
  rw [mK] at hr
  simp only [opD, ht]
  cases t
  ·have hr : (Rs.ok (mI f (iU b)) H).Is v H1 := hr
   rw [jS hf] at hr
   obtain ⟨rfl, rfl⟩ := Rs.aL hr; rfl
  ·have hr : (Rs.ok (mI f (iU a)) H).Is v H1 := hr
   rw [jS hf] at hr
   obtain ⟨rfl, rfl⟩ := Rs.aL hr; rfl
 ·exact absurd hr Rs.ar
theorem b6A (a b : Int) : c2a a b = a * b := by cases a <;> cases b <;> rfl
theorem a4o (a b : Int) : c3D a b = a.tdiv b := by cases a <;> cases b <;> rfl
theorem a4J (a b : Int) : c2M a b = a.tmod b := by cases a <;> cases b <;> rfl
theorem b6K {op : BinOp} {g : IntKind → Int → Int → Option Value} (h : b7e op = some g) (k : IntKind) (a b : Int) : mH op k a b = g k a b := by
 cases op <;> simp only [b7e] at h <;> first | (cases h; done) | (injection h with h; subst h)
 all_goals first
  | rfl
  | (simp only [mH, c3W, b6A]; done)
  | (simp only [mH, b7b, a4o]; done)
  | (simp only [mH, b7r, a4J]; done)
  | (simp only [mH, b7b, a4o]; rfl)
  | (simp only [mH, b7r, a4J]; rfl)
  | (simp only [mH, b7b, a4o]; cases eqI b 0 <;> rfl)
  | (simp only [mH, b7r, a4J]; cases eqI b 0 <;> rfl)
theorem c3o {o : Option Value} {H H1 : Heap} {v : Value} (h : (oV o H).Is v H1) : o = some v ∧ H1 = H := by
 cases o with
 | none => exact absurd h Rs.ar
 | some w => obtain ⟨rfl, rfl⟩ := Rs.aP h; exact ⟨rfl, rfl⟩
theorem b5N {o : Option Value} {H H1 : Heap} {v : Value} (h : (okV o H).Is v H1) : o = some v ∧ H1 = H := by
 cases o with
 | none => exact absurd h Rs.ar
 | some w =>
   have h : (nP w fun v => Rs.ok v H).Is v H1 := h
   rw [mK] at h
   obtain ⟨rfl, rfl⟩ := Rs.aL h; exact ⟨rfl, rfl⟩
theorem b7o {op : BinOp} {g : IntKind → Int → Int → Option Value} (hg : b7e op = some g) (t yt : TypeId) (x y : Operand) : LowPl P ⟨dst, .binOp op t x y yt, type, pos, after, guard⟩ (.bin g (iU x) (iU y)) := fun C f l H v H1 hf hr => by
 have hr : (c1q g (iU x) (iU y) f H).Is v H1 := hr
 unfold c1q at hr
 rw [jS hf] at hr
 split at hr
 ·rename_i k a hx
  unfold b9c at hr
  rw [jS hf] at hr
  split at hr
  ·rename_i k' b hy
   obtain ⟨hk, hq⟩ := kZ hr
   obtain rfl := b6i hk
   obtain ⟨hv, rfl⟩ := c3o hq
   rw [← b6K hg] at hv
   have : opD P ⟨dst, .binOp op t x y yt, type, pos, after, guard ⟩ l H1 = if k = k then (match mH op k a b with | some v => some (v, H1) | none => kH P ⟨dst, .binOp op t x y yt, type, pos, after, guard ⟩ l H1) else kH P ⟨dst, .binOp op t x y yt, type, pos, after, guard ⟩ l H1 := by
    simp only [opD, hx, hy]
    cases op <;> rfl
   rw [this, if_pos rfl, hv]
  ·exact absurd hr Rs.ar
 ·exact absurd hr Rs.ar
theorem b6s {b : Option Blk} {i e : Nat} {H H1 : Heap} {v : Value} (h : (b8G b i e H).Is v H1) : H1 = H ∧ ∃ cs ty rw lo ver, b = some (.cells cs ty rw lo ver) ∧ lo ≤ e ∧ e ≤ cs.length ∧ i + 1 ≤ e ∧ cs[i]? = some v := by
 unfold b8G at h
 split at h
 ·rename_i cs ty rw lo ver
  obtain ⟨h1, h⟩ := kZ h
  obtain ⟨h2, h⟩ := kZ h
  obtain ⟨h3, h⟩ := kZ h
  have h : (okV (a0x cs i) H).Is v H1 := h
  obtain ⟨h4, h5⟩ := b5N h
  rw [xI] at h2
  rw [xA] at h4
  exact ⟨h5, cs, ty, rw, lo, ver, rfl, dW h1, by simpa using h2, dW h3, h4⟩
 ·exact absurd h Rs.ar
theorem b7d {b : Option Blk} {n i e : Nat} {H H1 : Heap} {v : Value} (h : (b8A b n i e H).Is v H1) : H1 = H ∧ ∃ cs ty rw lo ver, b = some (.cells cs ty rw lo ver) ∧ lo ≤ e ∧ e ≤ cs.length ∧ i + n ≤ e ∧ v = .agg ((cs.drop i).take n).toArray := by
 unfold b8A at h
 split at h
 ·rename_i cs ty rw lo ver
  obtain ⟨h1, h⟩ := kZ h
  obtain ⟨h2, h⟩ := kZ h
  obtain ⟨h3, h⟩ := kZ h
  obtain ⟨h4, h⟩ := a5q h
  obtain ⟨rfl, rfl⟩ := Rs.aL h
  rw [xI] at h2
  exact ⟨rfl, cs, ty, rw, lo, ver, rfl, dW h1, by simpa using h2, dW h3, by rw [a6B]⟩
 ·exact absurd h Rs.ar
theorem b0p {X : LArg} {f : Fr} {H H1 : Heap} {v w : Value} {t : TypeId} (ht : jM P t = some false) (hw : mI f X = w) (h : (b1p X f H).Is v H1) : H1 = H ∧ lN P H t w = some v := by
 unfold b1p at h
 rw [hw] at h
 split at h
 ·rename_i A i e
  obtain ⟨h1, cs, ty, rw', lo, ver, h2, h3, h4, h5, h6⟩ := b6s h
  refine ⟨h1, ?_⟩
  simp only [lN, ht, jB, h2]
  rw [if_pos (by simp; omega)]
  simp [h6]
 ·rename_i A i
  unfold b9G at h
  split at h
  ·rename_i cs ty lo hg
   obtain ⟨h1, h⟩ := kZ h
   rw [xI] at h1
   have h1 : lo ≤ cs.length := by simpa using h1
   cases hn : a0x cs i with
   | none => rw [hn] at h; exact absurd h Rs.ar
   | some c =>
     rw [hn] at h
     have h : (nP c fun v => Rs.ok v H).Is v H1 := h
     rw [mK] at h
     obtain ⟨rfl, rfl⟩ := Rs.aL h
     rw [xA] at hn
     have hi := (dj.1 hn).1
     refine ⟨rfl, ?_⟩
     simp only [lN, ht, jB, hg]
     rw [if_pos (by simp; omega)]
     simp [hn]
  ·exact absurd h Rs.ar
 ·exact absurd h Rs.ar
theorem b0G {X : LArg} {f : Fr} {H H1 : Heap} {v w : Value} {t : TypeId} {n : Nat} (ht : jM P t = some true) (hn : iD P t = some n) (hw : mI f X = w) (h : (b1M n X f H).Is v H1) : H1 = H ∧ lN P H t w = some v := by
 unfold b1M at h
 rw [hw] at h
 split at h
 ·rename_i A i e
  obtain ⟨h1, cs, ty, rw', lo, ver, h2, h3, h4, h5, h6⟩ := b7d h
  refine ⟨h1, ?_⟩
  simp only [lN, ht, hn, cT, jB, h2]
  rw [if_pos (by simp; omega), h6]
  rfl
 ·exact absurd h Rs.ar
theorem b8m {t : TypeId} (ht : jM P t = some false) (x : Operand) : LowPl P ⟨dst, .load t x, type, pos, after, guard⟩ (.ld1 (iU x)) := fun C f l H v H1 hf hr => by
 obtain ⟨rfl, h⟩ := b0p (P := P) ht (jS hf x) hr
 simp only [opD, h, dE]
theorem b7K {t : TypeId} {n : Nat} (ht : jM P t = some true) (hn : iD P t = some n) (x : Operand) : LowPl P ⟨dst, .load t x, type, pos, after, guard⟩ (.ldn n (iU x)) := fun C f l H v H1 hf hr => by
 obtain ⟨rfl, h⟩ := b0G (P := P) ht hn (jS hf x) hr
 simp only [opD, h, dE]
theorem c0l {t : TypeId} {n : Nat} (hn : iD P t = some n) (x y : Operand) : LowPl P ⟨dst, .store t x y, type, pos, after, guard⟩ (.st n (iU x) (iU y)) := fun C f l H v H1 hf hr => by
 have hr : (hSt n (iU x) (iU y) f H).Is v H1 := hr
 unfold hSt at hr
 rw [jS hf, jS hf] at hr
 split at hr
 ·rename_i A i e hx
  unfold stB at hr
  split at hr
  ·rename_i cs ty lo ver hg
   obtain ⟨h1, hr⟩ := kZ hr
   obtain ⟨h2, hr⟩ := kZ hr
   obtain ⟨h3, hr⟩ := kZ hr
   obtain ⟨h4, hr⟩ := kZ hr
   obtain ⟨h5, hr⟩ := kZ hr
   obtain ⟨rfl, rfl⟩ := Rs.aP hr
   rw [wW] at h1 h3
   have h1 : n = (ev l y).cells.toList.length := by simpa only [decide_eq_true_eq] using h1
   have h3 : e = cs.length := by simpa only [decide_eq_true_eq] using h3
   have h4 : i + n ≤ e := dW h4
   have h5 : lo ≤ e := dW h5
   simp only [opD, pS, hx, hg]
   rw [if_pos ⟨by rw [hn, h1], h2, h3, by omega, h5⟩]
   simp only [dE]
   rw [h3]
  ·exact absurd hr Rs.ar
 ·exact absurd hr Rs.ar
theorem c1A {s : TypeId} {k n : Nat} {fd : Field} (hf' : nR P s k = some fd) (hn : iD P fd.type = some n) (hn0 : n ≠ 0) (x : Operand) : LowPl P ⟨dst, .fieldAddr s x k, type, pos, after, guard⟩ (.fa fd.offset (iU x)) := fun C f l H v H1 hf hr => by
 have hr : (hFa fd.offset (iU x) f H).Is v H1 := hr
 unfold hFa at hr
 rw [jS hf] at hr
 split at hr
 ·rename_i A i e hx
  rw [jW] at hr
  obtain ⟨rfl, rfl⟩ := Rs.aL hr
  simp only [opD, hx, hf', cT, hn]
  rw [if_neg (by simpa using hn0)]; rfl
 ·exact absurd hr Rs.ar
theorem b5b {A i e size n : Nat} {H H1 : Heap} {j v : Value} (h : (ixP A i e size n H j).Is v H1) : H1 = H ∧ ∃ k m, j = .int k (.ofNat m) ∧ m < n ∧ v = .pointer (some ⟨A, i + m * size, some e⟩) := by
 unfold ixP at h
 split at h
 ·rename_i k m
  obtain ⟨h1, h⟩ := kZ h
  rw [jW] at h
  obtain ⟨rfl, rfl⟩ := Rs.aL h
  rw [blt_eq] at h1
  exact ⟨rfl, k, m, rfl, by simpa using h1, rfl⟩
 ·exact absurd h Rs.ar
theorem b7k {t elem : TypeId} {size : Nat} (ht : P.underlying t = some (.slice elem)) (hs : iD P elem = some size) (x i : Operand) : LowPl P ⟨dst, .indexAddr t x i, type, pos, after, guard⟩ (.ixs size (iU x) (iU i)) := fun C f l H v H1 hf hr => by
 have hr : (c0f size (iU x) (iU i) f H).Is v H1 := hr
 unfold c0f at hr
 rw [jS hf, jS hf] at hr
 split at hr
 ·rename_i A a e n c hx
  obtain ⟨rfl, k, m, hj, hm, rfl⟩ := b5b hr
  simp only [opD, ht, hx, hj, hs, cT]
  rw [if_pos (by simp; omega)]
  rfl
 ·exact absurd hr Rs.ar
theorem c3J (a b : Nat) : Nat.beq a b = (a == b) := by
 cases h : Nat.beq a b with
 | true => rw [dK h]; simp
 | false => have := Nat.ne_of_beq_eq_false h; simp [this]
theorem b9E {A i size n : Nat} {H H1 : Heap} {j v : Value} (h : (ixG A i size n H j).Is v H1) : H1 = H ∧ ∃ k m, j = .int k (.ofNat m) ∧ m < n ∧ v = .pointer (some ⟨A, i + m * size, none⟩) := by
 unfold ixG at h
 split at h
 ·rename_i k m
  obtain ⟨h1, h⟩ := kZ h
  rw [jW] at h
  obtain ⟨rfl, rfl⟩ := Rs.aL h
  exact ⟨rfl, k, m, rfl, by simpa [gY] using h1, rfl⟩
 ·exact absurd h Rs.ar
theorem b7c {t elem : TypeId} {n size : Nat} (ht : P.underlying t = some (.array n elem)) (hs : iD P elem = some size) (x i : Operand) : LowPl P ⟨dst, .indexAddr t x i, type, pos, after, guard⟩ (.ixa n size (iU x) (iU i)) := fun C f l H v H1 hf hr => by
 have hr : (b9N n size (iU x) (iU i) f H).Is v H1 := hr
 unfold b9N at hr
 rw [jS hf, jS hf] at hr
 split at hr
 ·rename_i A a e hx
  obtain ⟨rfl, k, m, hj, hm, rfl⟩ := b5b hr
  simp only [opD, ht, hx, hj, hs, cT]
  rw [if_pos (by simp; omega)]
  rfl
 ·rename_i A a hx
  obtain ⟨rfl, k, m, hj, hm, rfl⟩ := b9E hr
  simp only [opD, ht, hx, hj, hs, cT]
  rw [if_pos (by simp; omega)]
  rfl
 ·exact absurd hr Rs.ar
theorem b7Q (i : Nat) (x : Operand) : LowPl P ⟨dst, .extract x i, type, pos, after, guard⟩ (.ext i (iU x)) := fun C f l H v H1 hf hr => by
 have hr : (c0p i (iU x) f H).Is v H1 := hr
 unfold c0p at hr
 rw [jS hf] at hr
 split at hr
 ·rename_i vs hx
  obtain ⟨h1, rfl⟩ := b5N hr
  rw [xA] at h1
  simp only [opD, hx]
  simp [h1]
 ·exact absurd hr Rs.ar
theorem b6T {c : Call} {elem : TypeId} (hc : c.callee = .builtin .len) (h1 : c.args.size = 1) (h2 : c.argTypes.size = 1) (ht : P.underlying (c.argTypes.getD 0 0) = some (.slice elem)) : LowPl P ⟨dst, .call c, type, pos, after, guard⟩ (.len (iU (c.args.getD 0 (.tmp 0)))) := fun C f l H v H1 hf hr => by
 have hr : (c0x (iU (c.args.getD 0 (.tmp 0))) f H).Is v H1 := hr
 unfold c0x at hr
 rw [jS hf] at hr
 split at hr
 ·rename_i a n k hx
  obtain ⟨rfl, rfl⟩ := Rs.aP hr
  simp only [opD, hc, h1, h2, ht, hx, wC]; rfl
 ·exact absurd hr Rs.ar
theorem b3d {c : Call} (hc : c.callee = .builtin .len) (h1 : c.args.size = 1) (h2 : c.argTypes.size = 1) (ht : P.underlying (c.argTypes.getD 0 0) = some .string) : LowPl P ⟨dst, .call c, type, pos, after, guard⟩ (.slen (iU (c.args.getD 0 (.tmp 0)))) := fun C f l H v H1 hf hr => by
 have hr : (b5I (iU (c.args.getD 0 (.tmp 0))) f H).Is v H1 := hr
 unfold b5I at hr
 rw [jS hf] at hr
 split at hr
 ·rename_i s hx
  obtain ⟨rfl, rfl⟩ := Rs.aP hr
  simp only [opD, hc, h1, h2, ht, hx, wC]; rfl
 ·exact absurd hr Rs.ar
theorem b6R {c : Call} {elem : TypeId} {size bytes : Nat} {z : Value} (hc : c.callee = .builtin .append) (h1 : c.args.size = 2) (h2 : c.argTypes.size = 2) (hi : ((P.underlying (c.argTypes.getD 1 0)).map pA) = some true)
 (he : iJ P (c.argTypes.getD 0 0) = some elem) (hs : iD P elem = some size) (hb : nD P elem = some bytes) (hz : iY P elem = some z) (hzs : z.cells.size = size) (hs0 : size ≠ 0) :
 LowPl P ⟨dst, .call c, type, pos, after, guard⟩ (.app elem size bytes (iU (c.args.getD 0 (.tmp 0))) (iU (c.args.getD 1 (.tmp 0)))) := fun C f l H v H1 hf hr => by
 have hr : (c0n P elem size bytes (iU (c.args.getD 0 (.tmp 0))) (iU (c.args.getD 1 (.tmp 0))) f H).Is v H1 := hr
 unfold c0n at hr
 rw [jS hf, jS hf] at hr
 have hD : opD P ⟨dst, .call c, type, pos, after, guard⟩ l H = nA P H (c.argTypes.getD 0 0) (ev l (c.args.getD 0 (.tmp 0))) (ev l (c.args.getD 1 (.tmp 0))) := by
  simp only [opD, hc, h1, h2, hi]; rfl
 rw [hD]
 unfold nA
 rw [he, cT, hs, cT, hb, cT, hz, cT]
 split at hr
 ·rename_i n m hsrc
  rw [hsrc, cT]
  unfold c3h at hr
  split at hr
  ·rename_i k cc hx
   obtain ⟨g1, hq1⟩ := kZ hr
   obtain ⟨g2, hq2⟩ := kZ hq1
   obtain ⟨g3, hq⟩ := kZ hq2
   clear hr hq1 hq2
   obtain rfl : k = 0 := dK g1
   obtain rfl : cc = 0 := dK g2
   have g3 : n * (bytes + 1) ≤ oB := dW g3
   simp only [hx]
   rw [if_pos (by simp [hs0, hzs, g3])]
   rw [kJ] at hq
   by_cases hn : n = 0
   ·subst hn
    rw [if_pos (by rfl)] at hq
    obtain ⟨rfl, rfl⟩ := Rs.aL hq
    simp
   ·rw [if_neg (fun e => hn (dK e))] at hq
    obtain ⟨rfl, rfl⟩ := Rs.aP hq
    simp [hn]
  ·rename_i A i e k cc hx
   unfold c3B at hr
   split at hr
   ·rename_i cs ty lo ver hg
    obtain ⟨g2, hr⟩ := kZ hr
    obtain ⟨g4, hr⟩ := kZ hr
    obtain ⟨g5, hr⟩ := kZ hr
    have g2 : (ty == elem || iD P ty == some size) = true := by
     rw [c3J] at g2
     cases hh : (ty == elem) with
     | true => rfl
     | false => rw [hh] at g2; exact g2
    rw [wW] at g4
    have g4 : e = cs.length := by simpa only [decide_eq_true_eq] using g4
    have g5 : lo ≤ e := dW g5
    simp only [hx, hg]
    rw [kJ] at hr
    by_cases g3 : i + k * size = e
    ·rw [if_pos (by simpa using g3)] at hr
     obtain ⟨g1, hr⟩ := kZ hr
     obtain ⟨rfl, rfl⟩ := Rs.aP hr
     have g1 : (k + n) * (bytes + 1) ≤ oB := dW g1
     have et : (Bool.rec (motive := fun _ => Nat) 2 ver (Nat.beq ty elem)) = (if (ty == elem) = true then ver else 2) := by
      rw [c3J]
      cases hh : (ty == elem) with
      | true => rfl
      | false => rfl
     rw [et, if_pos (by simp only [g2, fi, cU, bne_iff_ne, beq_iff_eq, decide_eq_true_eq]; exact ⟨⟨⟨⟨⟨hs0, g1⟩, by simpa using hzs⟩, g3⟩, g4⟩, g5⟩)]
    ·rw [if_neg (by simpa using g3)] at hr
     rw [kJ] at hr
     by_cases hn : n = 0
     ·rw [if_pos (by simpa using hn)] at hr
      exact absurd hr Rs.ar
     ·rw [if_neg (by simpa using hn)] at hr
      obtain ⟨g6, hr⟩ := kZ hr
      obtain ⟨rfl, rfl⟩ := Rs.aP hr
      have g6 : i + (k + n) * size ≤ e := dW g6
      rw [if_neg (by simp [g3]), if_pos (by simp only [g2, fi, cU, bne_iff_ne, beq_iff_eq, decide_eq_true_eq]; exact ⟨⟨⟨⟨⟨hs0, hn⟩, by simpa using hzs⟩, g6⟩, g4⟩, g5⟩), g4]
   ·exact absurd hr Rs.ar
  ·exact absurd hr Rs.ar
 ·exact absurd hr Rs.ar
theorem b1X {c : Call} {k : FuncId} (hc : c.callee = .value (.func k)) (hok : (Op.call c).operands.toList.all iN = true) : vG P ⟨dst, .call c, type, pos, after, guard⟩ (.callF k (kN k) (c.args.toList.map iU)) := fun C H0 f l H v H1 hC hk hf hr => by
 have hr : (a3e f (c.args.toList.map iU) fun l => C.fn (kN k) k l H).Is v H1 := hr
 rw [a5R hf] at hr
 obtain ⟨h1 | hx, h2⟩ := hC.fn _ _ _ _ _ _ hk hr rfl
 case inr => exact ⟨.ext hok c (.func k) k #[] #[] rfl hc rfl (by simpa using hx), h2⟩
 obtain ⟨he, v', H', hcall, rfl, rfl⟩ := h1.fn
 exact ⟨.call hok c (.func k) k #[] #[] rfl hc rfl he (by simpa using hcall), h2⟩
theorem b1O {c : Call} {g : Operand} (hc : c.callee = .value g) (hok : (Op.call c).operands.toList.all iN = true) : vG P ⟨dst, .call c, type, pos, after, guard⟩ (.callV (iU g) (c.args.toList.map iU)) := fun C H0 f l H v H1 hC hk hf hr => by
 have hr : (a3e f (c.args.toList.map iU) fun l => a8r C l H (mI f (iU g))).Is v H1 := hr
 rw [a5R hf, jS hf] at hr
 unfold a8r at hr
 split at hr
 ·rename_i k a b hg
  rw [jW, lG] at hr
  obtain ⟨h1 | hx, h2⟩ := hC.fn _ _ _ _ _ _ hk hr rfl
  case inr => exact ⟨.ext hok c g k ⟨a⟩ ⟨b⟩ rfl hc hg (by simpa [xV] using hx), h2⟩
  obtain ⟨he, v', H', hcall, rfl, rfl⟩ := h1.fn
  exact ⟨.call hok c g k ⟨a⟩ ⟨b⟩ rfl hc hg he (by simpa [xV] using hcall), h2⟩
 ·rename_i L a b hg
  obtain ⟨h1, h2⟩ := hC.rd _ _ _ _ _ hk hr
  exact ⟨.round hok c g L _ _ rfl hc hg h1, h2⟩
 ·exact absurd hr Rs.ar
end
set_option maxHeartbeats 1000000 in
theorem a9R {α : Type} (o : Oper) (K : LOp → α) : ∃ lo, vG P o lo ∧ xM P o K = K lo := by
 unfold xM
 rw [kJ]
 by_cases hok : o.op.operands.toList.all iN = true
 case neg => rw [if_neg hok]; exact ⟨_, b7t o, rfl⟩
 rw [if_pos hok]
 have gen : ∃ lo, vG P o lo ∧ K (.gen o) = K lo := ⟨_, (b8b o).low hok, rfl⟩
 obtain ⟨dst, op, type, pos, after, guard⟩ := o
 unfold c2o
 cases op with
 | move x => simp only [kW]; exact ⟨_, (c0E x).low hok, rfl⟩
 | assign x => simp only [kW]; exact ⟨_, (b9S x).low hok, rfl⟩
 | pick c a b => simp only [kW]; exact ⟨_, (b2Z c a b).low hok, rfl⟩
 | binOp op t x y yt =>
   simp only [kW, kJ]
   split
   ·split
    ·rename_i g hg; exact ⟨_, (b7o hg t yt x y).low hok, rfl⟩
    ·exact gen
   ·exact gen
 | load t x =>
   simp only [kW]
   split
   ·rename_i ht
    cases hn : iD P t with
    | none => exact gen
    | some n => rw [oG]; exact ⟨_, (b7K ht hn x).low hok, rfl⟩
   ·rename_i ht; exact ⟨_, (b8m ht x).low hok, rfl⟩
   ·exact gen
 | store t x y =>
   simp only [kW]
   cases hn : iD P t with
   | none => exact gen
   | some n => rw [oG]; exact ⟨_, (c0l hn x y).low hok, rfl⟩
 | fieldAddr s x k =>
   simp only [kW]
   split
   ·rename_i fd hfd
    split
    ·exact gen
    ·rename_i n hn0 hn
     rw [jW]
     exact ⟨_, (c1A hfd hn (fun e => hn0 e) x).low hok, rfl⟩
    ·exact gen
   ·exact gen
 | indexAddr t x i =>
   simp only [kW]
   split
   ·rename_i elem ht
    cases hs : iD P elem with
    | none => exact gen
    | some n => rw [oG]; exact ⟨_, (b7k ht hs x i).low hok, rfl⟩
   ·rename_i n elem ht
    cases hs : iD P elem with
    | none => exact gen
    | some m => rw [oG]; exact ⟨_, (b7c ht hs x i).low hok, rfl⟩
   ·exact gen
 | extract t i => simp only [kW]; rw [jW]; exact ⟨_, (b7Q i t).low hok, rfl⟩
 | call c =>
   simp only
   unfold b4Z
   split
   ·rename_i k hc
    rw [lG, a3w]
    exact ⟨_, b1X hc hok, rfl⟩
   ·rename_i g _ hc
    rw [kW, a3w]
    exact ⟨_, b1O hc hok, rfl⟩
   ·rename_i hc
    rw [kJ]
    split
    ·rename_i h1
     simp only [cU, beq_iff_eq] at h1
     split
     ·rename_i elem ht; rw [kW]; exact ⟨_, (b6T hc h1.1 h1.2 ht).low hok, rfl⟩
     ·rename_i ht; rw [kW]; exact ⟨_, (b3d hc h1.1 h1.2 ht).low hok, rfl⟩
     ·exact gen
    ·exact gen
   ·rename_i hc
    rw [kJ]
    split
    ·rename_i h1
     simp only [cU, beq_iff_eq] at h1
     split
     ·rename_i elem he
      cases hs : iD P elem with
      | none => exact gen
      | some size =>
        rw [oG]
        cases hb : nD P elem with
        | none => exact gen
        | some bytes =>
          rw [oG]
          split
          ·rename_i z hz
           rw [kJ]
           split
           ·rename_i h2
            simp only [cU, beq_iff_eq, bne_iff_ne] at h2
            rw [jW, kW, kW]
            exact ⟨_, (b6R hc h1.1.1 h1.1.2 h1.2 he hs hb hz h2.1 h2.2).low hok, rfl⟩
           ·exact gen
          ·exact gen
     ·exact gen
    ·exact gen
   ·exact gen
 | _ => exact gen
def DOk (k : Nat) (dst : Option Tmp) (d : Option Pth) : Prop := (dst = none ∧ d = none) ∨ ∃ t, dst = some t ∧ t < k ∧ d = some (kN t)
inductive LowOps (P : Program) (k : Nat) (ops : Array Oper) : List Oper → LOps → Prop
 | nil : LowOps P k ops [] .nil
 | cons {o : Oper} {os : List Oper} {d : Option Pth} {lo : LOp} {r : LOps} (hd : DOk k o.dst d) (ho : vG P o lo) (hg : o.guard = none) (hr : LowOps P k ops os r) : LowOps P k ops (o :: os) (.cons d lo r)
 | gcons {o : Oper} {os : List Oper} {d : Option Pth} {lo : LOp} {r : LOps} {j t : Nat} {w : Bool} (hd : DOk k o.dst d) (ho : vG P o lo) (hg : o.guard = some (j, w)) (ht : (ops[j]?).bind (·.dst) = some t) (htk : t < k) (hr : LowOps P k ops os r) : LowOps P k ops (o :: os) (.gcons (kN t) w d lo r)
def GOk (ops : Array Oper) (o : Oper) (g : Option (Pth × Bool)) : Prop := (o.guard = none ∧ g = none) ∨ ∃ j w t, o.guard = some (j, w) ∧ (ops[j]?).bind (·.dst) = some t ∧ g = some (kN t, w)
theorem GOk.runs {ops : Array Oper} {o : Oper} {g : Option (Pth × Bool)} (h : GOk ops o g) {f : Fr} {l : List Value} (hf : FAg f l) (hw : Region.wanted o (iT ops l) = true) : b4n f g = true := by
 rcases h with ⟨_, rfl⟩ | ⟨j, w, t, hg, ht, rfl⟩
 ·rfl
 ·simp only [Region.wanted, hg, iT, ht] at hw
  show isB (nH (kN t) f) w = true
  rw [hf t, nV, cX]
  cases hl : l[t]? with
  | none => rw [hl] at hw; simp at hw
  | some v =>
    rw [hl] at hw
    cases v <;> simp at hw
    subst hw
    rename_i b
    cases b <;> rfl
inductive LowTab (P : Program) (ops : Array Oper) : List (Nat × Nat) → List (Nat × Option Nat × Option (Pth × Bool) × LOp) → Prop
 | nil : LowTab P ops [] []
 | cons {i m : Nat} {o : Oper} {lo : LOp} {tab : List (Nat × Nat)} {t : List (Nat × Option Nat × Option (Pth × Bool) × LOp)} {g : Option (Pth × Bool)} (ho : ops[i]? = some o) (hgd : GOk ops o g) (hl : vG P o lo) (hr : LowTab P ops tab t) :
    LowTab P ops ((i, m) :: tab) ((ops.size - 1 - i, if m < ops.size then some (ops.size - 1 - m) else none, g, lo) :: t)
inductive Low (P : Program) (k : Nat) : Code → LCode → Prop
 | bad (c : Code) : Low P k c .bad
 | skip : Low P k .skip .skip
 | label (t : Nat) : Low P k (.label t) .skip
 | reg {id : Nat} {ops : Array Oper} {d : Bool} {lo : LOps} (h : LowOps P k ops ops.toList lo) (hd : d = true → mT P ops = some []) : Low P k (.region id ops d) (.reg lo)
 | drw {id : Nat} {ops : Array Oper} {lo : LOps} {tab : List (Nat × Nat)} {t : List (Nat × Option Nat × Option (Pth × Bool) × LOp)} (h : LowOps P k ops ops.toList lo) (ht : mT P ops = some tab) (hl : LowTab P ops tab t) : Low P k (.region id ops true) (.drw lo t)
 | seq {a b : Code} {A B : LCode} (ha : Low P k a A) (hb : Low P k b B) : Low P k (.seq a b) (.seq A B)
 | cond {c : Operand} {x y : Code} {X Y : LCode} (hc : iN c = true) (hx : Low P k x X) (hy : Low P k y Y) : Low P k (.cond c x y) (.cond (iU c) X Y)
 | block {id : Nat} {b : Code} {B : LCode} (hb : Low P k b B) : Low P k (.block id b) (.block id B)
 | loop {b : Code} {B : LCode} (hb : Low P k b B) : Low P k (.loop b) (.loop B)
 | exit (id : Nat) : Low P k (.exit id) (.exit id)
 | ret : Low P k .ret .ret
 | range {g : Operand} {ps : Array Tmp} {assign body : Code} {A B : LCode} (hg : iN g = true) (hps : ∀ t ∈ ps.toList, t < k) (ha : Low P k assign A) (hb : Low P k body B) :
    Low P k (.rangeFunc g ps assign body) (.range (iU g) ((List.range k).map kN) (ps.toList.map kN) ps assign body A B)
section
variable {α : Type}
theorem b3f (k : Nat) (dst : Option Tmp) (no : α) (K : Option Pth → α) : (∃ d, DOk k dst d ∧ a7o k dst no K = K d) ∨ a7o k dst no K = no := by
 cases dst with
 | none => exact .inl ⟨none, .inl ⟨rfl, rfl⟩, rfl⟩
 | some t =>
   simp only [a7o, kJ]
   split
   ·rename_i h
    rw [lG]
    rw [blt_eq] at h
    exact .inl ⟨_, .inr ⟨t, rfl, by simpa using h, rfl⟩, rfl⟩
   ·exact .inr rfl
theorem a1s (k : Nat) (ops : Array Oper) (l : List Oper) (K : LOps → α) (no : α) : (∃ L, LowOps P k ops l L ∧ tS P k ops l K no = K L) ∨ tS P k ops l K no = no := by
 induction l generalizing K with
 | nil => exact .inl ⟨_, .nil, rfl⟩
 | cons o l ih =>
   let K2 : Option Pth → LOp → α := fun d o' => match o.guard with
    | none => tS P k ops l (fun r => K (.cons d o' r)) no
    | some (j, w) => match (ops[j]?).bind (·.dst) with
      | some t => nG (Nat.blt t k) no (lJ (kN t) fun p => zK w fun w => tS P k ops l (fun r => K (.gcons p w d o' r)) no)
      | none => no
   have e : tS P k ops (o :: l) K no = a7o k o.dst no fun d => xM P o fun o' => K2 d o' := rfl
   rw [e]
   rcases b3f k o.dst no (fun d => xM P o fun o' => K2 d o') with ⟨d, hd, h1⟩ | h1
   ·rw [h1]
    obtain ⟨lo, hlo, h2⟩ := a9R (P := P) o (fun o' => K2 d o')
    rw [h2]
    simp only [K2]
    split
    ·rename_i hg
     rcases ih (fun r => K (.cons d lo r)) with ⟨L, hL, h3⟩ | h3
     ·exact .inl ⟨_, .cons hd hlo hg hL, h3⟩
     ·exact .inr h3
    ·rename_i j w hg
     split
     ·rename_i t ht
      rw [kJ]
      split
      ·rename_i htk
       rw [lG, uB]
       rw [blt_eq] at htk
       rcases ih (fun r => K (.gcons (kN t) w d lo r)) with ⟨L, hL, h3⟩ | h3
       ·exact .inl ⟨_, .gcons hd hlo hg ht (by simpa using htk) hL, h3⟩
       ·exact .inr h3
      ·exact .inr rfl
     ·exact .inr rfl
   ·exact .inr h1
theorem c0U (k : Nat) (ops : Array Oper) (o : Oper) (no : α) (K : Option (Pth × Bool) → α) : (∃ g, GOk ops o g ∧ loG k ops o.guard no K = K g) ∨ loG k ops o.guard no K = no := by
 cases hg : o.guard with
 | none => exact .inl ⟨none, .inl ⟨hg, rfl⟩, rfl⟩
 | some x =>
   obtain ⟨j, w⟩ := x
   unfold loG
   cases ht : (ops[j]?).bind (·.dst) with
   | none => exact .inr (by simp only [ht])
   | some t =>
     simp only [ht, kJ]
     split
     ·refine .inl ⟨some (kN t, w), .inr ⟨j, w, t, hg, ht, rfl⟩, ?_⟩
      rw [lG, uB]
     ·exact .inr rfl
theorem b5M (k : Nat) (ops : Array Oper) (tab : List (Nat × Nat)) (K : List (Nat × Option Nat × Option (Pth × Bool) × LOp) → α) (no : α) : (∃ t, LowTab P ops tab t ∧ sH P k ops ops.size tab K no = K t) ∨ sH P k ops ops.size tab K no = no := by
 induction tab generalizing K with
 | nil => exact .inl ⟨_, .nil, rfl⟩
 | cons x tab ih =>
   obtain ⟨i, m⟩ := x
   cases ho : ops[i]? with
   | none =>
     refine .inr ?_
     show (match ops[i]? with
      | some o => _
      | none => no) = no
     rw [ho]
   | some o =>
     let K2 : Option (Pth × Bool) → LOp → α := fun g o' => kA (ops.size - 1 - i) fun i => nG (Nat.blt m ops.size) (sH P k ops ops.size tab (fun l => K ((i, none, g, o') :: l)) no) (kA (ops.size - 1 - m) fun m => sH P k ops ops.size tab (fun l => K ((i, some m, g, o') :: l)) no)
     have e : sH P k ops ops.size ((i, m) :: tab) K no = loG k ops o.guard no fun g => xM P o fun o' => K2 g o' := by
      show (match ops[i]? with
       | some o => loG k ops o.guard no fun g => xM P o fun o' => K2 g o'
       | none => no) = _
      rw [ho]
     rw [e]
     rcases c0U k ops o no (fun g => xM P o fun o' => K2 g o') with ⟨g, hgd, h1⟩ | h1
     ·rw [h1]
      obtain ⟨lo, hlo, h2⟩ := a9R (P := P) o (fun o' => K2 g o')
      rw [h2]
      show (∃ t, _ ∧ kA (ops.size - 1 - i) (fun i => nG (Nat.blt m ops.size) (sH P k ops ops.size tab (fun l => K ((i, none, g, lo) :: l)) no) (kA (ops.size - 1 - m) fun m => sH P k ops ops.size tab (fun l => K ((i, some m, g, lo) :: l)) no)) = K t) ∨ kA (ops.size - 1 - i) (fun i => nG (Nat.blt m ops.size) (sH P k ops ops.size tab (fun l => K ((i, none, g, lo) :: l)) no) (kA (ops.size - 1 - m) fun m => sH P k ops ops.size tab (fun l => K ((i, some m, g, lo) :: l)) no)) = no
      rw [jW, kJ, jW, blt_eq]
      by_cases hm : m < ops.size
      ·rw [if_pos (by simpa using hm)]
       rcases ih (fun l => K ((ops.size - 1 - i, some (ops.size - 1 - m), g, lo) :: l)) with ⟨t, ht, h3⟩ | h3
       ·have := LowTab.cons (m := m) ho hgd hlo ht
        rw [if_pos hm] at this
        exact .inl ⟨_, this, h3⟩
       ·exact .inr h3
      ·rw [if_neg (by simpa using hm)]
       rcases ih (fun l => K ((ops.size - 1 - i, none, g, lo) :: l)) with ⟨t, ht, h3⟩ | h3
       ·have := LowTab.cons (m := m) ho hgd hlo ht
        rw [if_neg hm] at this
        exact .inl ⟨_, this, h3⟩
       ·exact .inr h3
     ·exact .inr h1
theorem b2O (k : Nat) (l : List Tmp) (K : List Pth → α) (no : α) : ((∀ t ∈ l, t < k) ∧ vJ k l K no = K (l.map kN)) ∨ vJ k l K no = no := by
 induction l generalizing K with
 | nil => exact .inl ⟨by simp, rfl⟩
 | cons t l ih =>
   show _ ∨ nG (Nat.blt t k) no (lJ (kN t) fun p => vJ k l (fun l => K (p :: l)) no) = no
   have e : vJ k (t :: l) K no = nG (Nat.blt t k) no (lJ (kN t) fun p => vJ k l (fun l => K (p :: l)) no) := rfl
   rw [e, kJ, lG, blt_eq]
   by_cases h : t < k
   ·rw [if_pos (by simpa using h)]
    rcases ih (fun l => K (kN t :: l)) with ⟨h1, h2⟩ | h2
    ·exact .inl ⟨by simpa using ⟨h, h1⟩, h2⟩
    ·exact .inr h2
   ·rw [if_neg (by simpa using h)]; exact .inr rfl
theorem b2P (k : Nat) (c : Code) (K : LCode → α) : ∃ C, Low P k c C ∧ mU P k c K = K C := by
 induction c generalizing K with
 | skip => exact ⟨_, .skip, rfl⟩
 | region id ops d =>
   cases d with
   | false =>
     show ∃ C, _ ∧ tS P k ops ops.toList (fun l => K (.reg l)) (K .bad) = K C
     rcases a1s (P := P) k ops ops.toList (fun l => K (.reg l)) (K .bad) with ⟨L, hL, h⟩ | h
     ·exact ⟨_, .reg hL (fun h => by cases h), h⟩
     ·exact ⟨_, .bad _, h⟩
   | true =>
     show ∃ C, _ ∧ (match mT P ops with
      | some [] => tS P k ops ops.toList (fun l => K (.reg l)) (K .bad)
      | some tab => tS P k ops ops.toList (fun l => sH P k ops ops.size tab (fun t => K (.drw l t)) (K .bad)) (K .bad)
      | none => K .bad) = K C
     split
     ·rename_i hd
      rcases a1s (P := P) k ops ops.toList (fun l => K (.reg l)) (K .bad) with ⟨L, hL, h⟩ | h
      ·exact ⟨_, .reg hL (fun _ => hd), h⟩
      ·exact ⟨_, .bad _, h⟩
     ·rename_i tab _ hd
      rcases a1s (P := P) k ops ops.toList (fun l => sH P k ops ops.size tab (fun t => K (.drw l t)) (K .bad)) (K .bad) with ⟨L, hL, h⟩ | h
      ·rw [h]
       rcases b5M (P := P) k ops tab (fun t => K (.drw L t)) (K .bad) with ⟨t, ht, h2⟩ | h2
       ·exact ⟨_, .drw hL hd ht, h2⟩
       ·exact ⟨_, .bad _, h2⟩
      ·exact ⟨_, .bad _, h⟩
     ·exact ⟨_, .bad _, rfl⟩
 | seq a b iha ihb =>
   show ∃ C, _ ∧ mU P k a (fun a => mU P k b fun b => K (.seq a b)) = K C
   obtain ⟨A, hA, h1⟩ := iha (fun a => mU P k b fun b => K (.seq a b))
   obtain ⟨B, hB, h2⟩ := ihb (fun b => K (.seq A b))
   exact ⟨_, .seq hA hB, h1.trans h2⟩
 | cond c x y ihx ihy =>
   show ∃ C, _ ∧ nG (iN c) (K .bad) (lM c fun c => mU P k x fun x => mU P k y fun y => K (.cond c x y)) = K C
   rw [kJ]
   split
   ·rename_i hc
    rw [kW]
    obtain ⟨X, hX, h1⟩ := ihx (fun x => mU P k y fun y => K (.cond (iU c) x y))
    obtain ⟨Y, hY, h2⟩ := ihy (fun y => K (.cond (iU c) X y))
    exact ⟨_, .cond hc hX hY, h1.trans h2⟩
   ·exact ⟨_, .bad _, rfl⟩
 | block id b ih =>
   show ∃ C, _ ∧ kA id (fun id => mU P k b fun b => K (.block id b)) = K C
   rw [jW]
   obtain ⟨B, hB, h1⟩ := ih (fun b => K (.block id b))
   exact ⟨_, .block hB, h1⟩
 | loop b ih =>
   show ∃ C, _ ∧ mU P k b (fun b => K (.loop b)) = K C
   obtain ⟨B, hB, h1⟩ := ih (fun b => K (.loop b))
   exact ⟨_, .loop hB, h1⟩
 | rangeFunc g ps assign body iha ihb =>
   show ∃ C, _ ∧ nG (iN g) (K .bad) (lM g fun g' => b2b k fun pp => vJ k ps.toList (fun q => mU P k assign fun a => mU P k body fun b => K (.range g' pp q ps assign body a b)) (K .bad)) = K C
   rw [kJ]
   split
   ·rename_i hg
    rw [kW, b0H]
    rcases b2O k ps.toList (fun q => mU P k assign fun a => mU P k body fun b => K (.range (iU g) ((List.range k).map kN) q ps assign body a b)) (K .bad) with ⟨hps, h⟩ | h
    ·obtain ⟨A, hA, h1⟩ := iha (fun a => mU P k body fun b => K (.range (iU g) ((List.range k).map kN) (ps.toList.map kN) ps assign body a b))
     obtain ⟨B, hB, h2⟩ := ihb (fun b => K (.range (iU g) ((List.range k).map kN) (ps.toList.map kN) ps assign body A b))
     exact ⟨_, .range hg hps hA hB, h.trans (h1.trans h2)⟩
    ·exact ⟨_, .bad _, h⟩
   ·exact ⟨_, .bad _, rfl⟩
 | exit id =>
   show ∃ C, _ ∧ kA id (fun id => K (.exit id)) = K C
   rw [jW]
   exact ⟨_, .exit id, rfl⟩
 | label t => exact ⟨_, .label t, rfl⟩
 | ret => exact ⟨_, .ret, rfl⟩
 | scope b _ => exact ⟨_, .bad _, rfl⟩
 | goto t => exact ⟨_, .bad _, rfl⟩
 | refuse w => exact ⟨_, .bad _, rfl⟩
end
theorem uQ {α : Type} {k : Nat} {f : Fr} {l : List Value} (h : FRel k f l) {dst : Option Tmp} {d : Option Pth} (hd : DOk k dst d) (v : Value) (K : Fr → α) : ∃ f', tY d v f K = K f' ∧ FRel k f' (put l dst v) := by
 rcases hd with ⟨rfl, rfl⟩ | ⟨t, rfl, ht, rfl⟩
 ·exact ⟨f, rfl, h⟩
 ·exact ⟨b3z f t v, rM v (kN t) f K, h.put ht v⟩
theorem xE {ops : Array Oper} {l : List Value} {j t : Nat} (ht : (ops[j]?).bind (·.dst) = some t) (htl : t < l.length) (w : Bool) : (iT ops l j == some w) = isB (get l t) w := by
 have hg : get l t = l[t] := by rw [nV]; simp [htl]
 unfold iT
 rw [ht, hg]
 simp only [de htl]
 cases hv : l[t] <;> simp [isB]
 rename_i b
 cases b <;> cases w <;> rfl
theorem b6u {k : Nat} {ops : Array Oper} {C : Calls'} {H0 : Heap} (hC : CallsOk P C H0) {os : List Oper} {lo : LOps} (hlo : LowOps P k ops os lo) : ∀ {i : Nat}, ops.toList.drop i = os → ∀ {f : Fr} {l : List Value} {H : Heap} {f1 : Fr} {H1 : Heap},
 FRel k f l → LK H0 H → wX P C lo f H = .ok f1 H1 → ∃ l1, FRel k f1 l1 ∧ OpsR P ops (List.range' i os.length) l H l1 H1 ∧ LK H H1 := by
 induction hlo with
 | nil =>
   intro i _ f l H f1 H1 hf _ h
   injection h with h1 h2
   subst h1 h2
   exact ⟨l, hf, .nil l H, .refl H⟩
 | @cons o os d lo r hd ho hg hr ih =>
   intro i hi f l H f1 H1 hf hk h
   have hio : ops[i]? = some o := by
    have : (ops.toList.drop i)[0]? = some o := by rw [hi]; rfl
    rw [dq] at this
    simpa using this
   have hi' : ops.toList.drop (i + 1) = os := by rw [← fm, hi]; rfl
   have hw : Region.wanted o (iT ops l) = true := by simp [Region.wanted, hg]
   have h : b0c Rf.no d f (wX P C r) (opF P C lo f H) = .ok f1 H1 := h
   have key : ∀ v H2, (opF P C lo f H).Is v H2 → (tY d v f fun f => wX P C r f H2) = .ok f1 H1 → ∃ l1, FRel k f1 l1 ∧ OpsR P ops (List.range' i (o :: os).length) l H l1 H1 ∧ LK H H1 := by
    intro v H2 hop hrest
    obtain ⟨hs, hk2⟩ := ho C H0 f l H v H2 hC hk hf.2 hop
    obtain ⟨f', e, hf'⟩ := uQ hf hd v (fun f => wX P C r f H2)
    rw [e] at hrest
    obtain ⟨l1, h1, h2, h3⟩ := ih hi' hf' (hk.trans hk2) hrest
    exact ⟨l1, h1, .step hio hw hs h2, hk2.trans h3⟩
   cases hop : opF P C lo f H with
   | no => rw [hop] at h; cases h
   | ok v H2 => rw [hop] at h; exact key v H2 (.inl hop) h
   | th v H2 =>
     rw [hop] at h
     have h : xJ v (fun v => nE H2 fun H2 => tY d v f fun f => wX P C r f H2) = .ok f1 H1 := h
     rw [xK, lU] at h
     exact key v H2 (.inr hop) h
 | @gcons o os d lo r j t w hd ho hg ht htk hr ih =>
   intro i hi f l H f1 H1 hf hk h
   have hio : ops[i]? = some o := by
    have : (ops.toList.drop i)[0]? = some o := by rw [hi]; rfl
    rw [dq] at this
    simpa using this
   have hi' : ops.toList.drop (i + 1) = os := by rw [← fm, hi]; rfl
   have hwi : Region.wanted o (iT ops l) = isB (nH (kN t) f) w := by
    simp only [Region.wanted, hg]
    rw [xE ht (by rw [hf.1]; exact htk) w, hf.2 t]
   have h : nG (isB (nH (kN t) f) w) (tY d undef f fun f => wX P C r f H) (b0c Rf.no d f (wX P C r) (opF P C lo f H)) = .ok f1 H1 := h
   rw [kJ] at h
   split at h
   ·rename_i hb
    have key : ∀ v H2, (opF P C lo f H).Is v H2 → (tY d v f fun f => wX P C r f H2) = .ok f1 H1 → ∃ l1, FRel k f1 l1 ∧ OpsR P ops (List.range' i (o :: os).length) l H l1 H1 ∧ LK H H1 := by
     intro v H2 hop hrest
     obtain ⟨hs, hk2⟩ := ho C H0 f l H v H2 hC hk hf.2 hop
     obtain ⟨f', e, hf'⟩ := uQ hf hd v (fun f => wX P C r f H2)
     rw [e] at hrest
     obtain ⟨l1, h1, h2, h3⟩ := ih hi' hf' (hk.trans hk2) hrest
     exact ⟨l1, h1, .step hio (by rw [hwi, hb]) hs h2, hk2.trans h3⟩
    cases hop : opF P C lo f H with
    | no => rw [hop] at h; cases h
    | ok v H2 => rw [hop] at h; exact key v H2 (.inl hop) h
    | th v H2 =>
      rw [hop] at h
      have h : xJ v (fun v => nE H2 fun H2 => tY d v f fun f => wX P C r f H2) = .ok f1 H1 := h
      rw [xK, lU] at h
      exact key v H2 (.inr hop) h
   ·rename_i hb
    obtain ⟨f', e, hf'⟩ := uQ hf hd undef (fun f => wX P C r f H)
    rw [e] at h
    obtain ⟨l1, h1, h2, h3⟩ := ih hi' hf' hk h
    exact ⟨l1, h1, .past hio (by rw [hwi]; simpa using hb) h2, h3⟩
structure Noted (P : Program) (k : Nat) (ops : Array Oper) (H : Heap) (i n : Nat) (T : Nat → List Value × Heap) (val : Nat → Value) (tr0 tr : List (Fr × Heap × Value)) : Prop where
 step : ∀ j, i ≤ j → j < i + n → uY P ops j (T j) (T (j + 1)) (val j)
 new : ∀ j, i ≤ j → j < i + n → ∃ g, tr[i + n - 1 - j]? = some (g, (T j).2, val j) ∧ FAg g (T j).1
 old : ∀ m, tr[n + m]? = tr0[m]?
 lk : ∀ j, i ≤ j → j ≤ i + n → LK H (T j).2
theorem b4K {k : Nat} {ops : Array Oper} {C : Calls'} {H0 : Heap} (hC : CallsOk P C H0) {os : List Oper} {lo : LOps} (hlo : LowOps P k ops os lo) : ∀ {i : Nat}, ops.toList.drop i = os → ∀ {tr0 tr : List (Fr × Heap × Value)} {f : Fr} {l : List Value} {H : Heap} {f1 : Fr} {H1 : Heap},
 FRel k f l → LK H0 H → qJ P C lo tr0 f H = .ok tr f1 H1 → ∃ T val l1, T i = (l, H) ∧ T (i + os.length) = (l1, H1) ∧ FRel k f1 l1 ∧ Noted P k ops H i os.length T val tr0 tr := by
 have more : ∀ {i n : Nat} {o : Oper} {tr0 tr : List (Fr × Heap × Value)} {f : Fr} {l : List Value} {H : Heap} {v : Value} {l2 : List Value} {H2 : Heap} {l1 : List Value} {H1 : Heap} {f1 : Fr}, FRel k f l → uY P ops i (l, H) (l2, H2) v → LK H H2 →
  (∃ T val l1, T (i + 1) = (l2, H2) ∧ T (i + 1 + n) = (l1, H1) ∧ FRel k f1 l1 ∧ Noted P k ops H2 (i + 1) n T val ((f, H, v) :: tr0) tr) →
  ∃ T val l1, T i = (l, H) ∧ T (i + (n + 1)) = (l1, H1) ∧ FRel k f1 l1 ∧ Noted P k ops H i (n + 1) T val tr0 tr := by
  intro i n o tr0 tr f l H v l2 H2 _ H1 f1 hf hst hk ⟨T, val, l1, h1, h2, h3, hN⟩
  refine ⟨fun j => if j ≤ i then (l, H) else T j, fun j => if j ≤ i then v else val j, l1, by simp, ?_, h3, ?_⟩
  ·show (if i + (n + 1) ≤ i then (l, H) else T (i + (n + 1))) = _
   rw [if_neg (by omega), ← h2]; congr 1; omega
  ·refine ⟨fun j hj hn => ?_, fun j hj hn => ?_, fun m => ?_, fun j hj hn => ?_⟩
   ·by_cases he : j = i
    ·subst he
     simp only [db, if_true]
     rw [if_neg (by omega), h1]
     exact hst
    ·rw [if_neg (by omega), if_neg (by omega), if_neg (by omega)]
     exact hN.step j (by omega) (by omega)
   ·by_cases he : j = i
    ·subst he
     simp only [db, if_true]
     refine ⟨f, ?_, hf.2⟩
     have := hN.old 0
     rw [show j + (n + 1) - 1 - j = n + 0 by omega, this]; rfl
    ·rw [if_neg (by omega), if_neg (by omega)]
     obtain ⟨g, hg, hag⟩ := hN.new j (by omega) (by omega)
     exact ⟨g, by rw [← hg]; congr 1; omega, hag⟩
   ·have := hN.old (m + 1)
    rw [show n + 1 + m = n + (m + 1) by omega, this]; rfl
   ·by_cases he : j = i
    ·subst he; simp only [db, if_true]; exact .refl H
    ·rw [if_neg (by omega)]; exact hk.trans (hN.lk j (by omega) (by omega))
 induction hlo with
 | nil =>
   intro i _ tr0 tr f l H f1 H1 hf _ h
   injection h with h1 h2 h3
   subst h1 h2 h3
   exact ⟨fun _ => (l, H), fun _ => undef, l, rfl, rfl, hf, fun j _ h => absurd h (by simp; omega), fun j _ h => absurd h (by simp; omega), fun m => by simp, fun _ _ _ => .refl H⟩
 | @cons o os d lo r hd ho hg hr ih =>
   intro i hi tr0 tr f l H f1 H1 hf hk h
   have hio : ops[i]? = some o := by
    have : (ops.toList.drop i)[0]? = some o := by rw [hi]; rfl
    rw [dq] at this
    simpa using this
   have hi' : ops.toList.drop (i + 1) = os := by rw [← fm, hi]; rfl
   have hw : Region.wanted o (iT ops l) = true := by simp [Region.wanted, hg]
   have h : b0x tr0 f H d (qJ P C r) (opF P C lo f H) = .ok tr f1 H1 := h
   have key : ∀ v H2, (opF P C lo f H).Is v H2 → (tY d v f fun f2 => qJ P C r ((f, H, v) :: tr0) f2 H2) = .ok tr f1 H1 → ∃ T val l1, T i = (l, H) ∧ T (i + (o :: os).length) = (l1, H1) ∧ FRel k f1 l1 ∧ Noted P k ops H i (o :: os).length T val tr0 tr := by
    intro v H2 hop hrest
    obtain ⟨hs, hk2⟩ := ho C H0 f l H v H2 hC hk hf.2 hop
    obtain ⟨f', e, hf'⟩ := uQ hf hd v (fun f2 => qJ P C r ((f, H, v) :: tr0) f2 H2)
    rw [e] at hrest
    have := ih hi' hf' (hk.trans hk2) hrest
    exact more (o := o) (l1 := l) hf ⟨o, hio, rfl, .inl ⟨hw, hs⟩⟩ hk2 this
   cases hop : opF P C lo f H with
   | no => rw [hop] at h; cases h
   | ok v H2 => rw [hop] at h; exact key v H2 (.inl hop) h
   | th v H2 =>
     rw [hop] at h
     have h : xJ v (fun v => nE H2 fun H2 => tY d v f fun f2 => qJ P C r ((f, H, v) :: tr0) f2 H2) = .ok tr f1 H1 := h
     rw [xK, lU] at h
     exact key v H2 (.inr hop) h
 | @gcons o os d lo r j t w hd ho hg ht htk hr ih =>
   intro i hi tr0 tr f l H f1 H1 hf hk h
   have hio : ops[i]? = some o := by
    have : (ops.toList.drop i)[0]? = some o := by rw [hi]; rfl
    rw [dq] at this
    simpa using this
   have hi' : ops.toList.drop (i + 1) = os := by rw [← fm, hi]; rfl
   have hwi : Region.wanted o (iT ops l) = isB (nH (kN t) f) w := by
    simp only [Region.wanted, hg]
    rw [xE ht (by rw [hf.1]; exact htk) w, hf.2 t]
   have h : nG (isB (nH (kN t) f) w) (tY d undef f fun f2 => qJ P C r ((f, H, undef) :: tr0) f2 H) (b0x tr0 f H d (qJ P C r) (opF P C lo f H)) = .ok tr f1 H1 := h
   rw [kJ] at h
   split at h
   ·rename_i hb
    have key : ∀ v H2, (opF P C lo f H).Is v H2 → (tY d v f fun f2 => qJ P C r ((f, H, v) :: tr0) f2 H2) = .ok tr f1 H1 → ∃ T val l1, T i = (l, H) ∧ T (i + (o :: os).length) = (l1, H1) ∧ FRel k f1 l1 ∧ Noted P k ops H i (o :: os).length T val tr0 tr := by
     intro v H2 hop hrest
     obtain ⟨hs, hk2⟩ := ho C H0 f l H v H2 hC hk hf.2 hop
     obtain ⟨f', e, hf'⟩ := uQ hf hd v (fun f2 => qJ P C r ((f, H, v) :: tr0) f2 H2)
     rw [e] at hrest
     exact more (o := o) (l1 := l) hf ⟨o, hio, rfl, .inl ⟨by rw [hwi, hb], hs⟩⟩ hk2 (ih hi' hf' (hk.trans hk2) hrest)
    cases hop : opF P C lo f H with
    | no => rw [hop] at h; cases h
    | ok v H2 => rw [hop] at h; exact key v H2 (.inl hop) h
    | th v H2 =>
      rw [hop] at h
      have h : xJ v (fun v => nE H2 fun H2 => tY d v f fun f2 => qJ P C r ((f, H, v) :: tr0) f2 H2) = .ok tr f1 H1 := h
      rw [xK, lU] at h
      exact key v H2 (.inr hop) h
   ·rename_i hb
    obtain ⟨f', e, hf'⟩ := uQ hf hd undef (fun f2 => qJ P C r ((f, H, undef) :: tr0) f2 H)
    rw [e] at h
    exact more (o := o) (l1 := l) hf ⟨o, hio, rfl, .inr ⟨by rw [hwi]; simpa using hb, rfl, rfl⟩⟩ (.refl H) (ih hi' hf' hk h)
theorem b0n {α : Type} (p : α → Bool) (l : List α) : b4w p l = l.all p := by
 induction l with
 | nil => rfl
 | cons x l ih =>
   show nG (p x) false (b4w p l) = _
   rw [kJ, ih, fh]
   cases p x <;> rfl
theorem b6I {v : Value} {r : Rs} (h : b7A v r = true) : ∃ H, r.Is v H := by
 cases r with
 | no => cases h
 | ok w H => exact ⟨H, .inl (by rw [b3k (show veq w v = true from h)])⟩
 | th w H => exact ⟨H, .inr (by rw [b3k (show veq w v = true from h)])⟩
theorem LowTab.get {ops : Array Oper} {tab : List (Nat × Nat)} {t : List (Nat × Option Nat × Option (Pth × Bool) × LOp)} (h : LowTab P ops tab t) {i m : Nat} (hm : (i, m) ∈ tab) : ∃ o lo g, ops[i]? = some o ∧ GOk ops o g ∧ vG P o lo ∧ (ops.size - 1 - i, (if m < ops.size then some (ops.size - 1 - m) else none), g, lo) ∈ t := by
 induction h with
 | nil => cases hm
 | @cons i2 m2 o lo tab t g ho hgd hl hr ih =>
   rcases dO.1 hm with he | hm
   ·injection he with h1 h2
    subst h1 h2
    exact ⟨o, lo, g, ho, hgd, hl, by simp⟩
   ·obtain ⟨o', lo', g', h1, h0, h2, h3⟩ := ih hm
    exact ⟨o', lo', g', h1, h0, h2, dT _ h3⟩
theorem a9x {fl : Fl} {ops : Array Oper} {i m : Nat} (h : (i, m) ∈ mF fl ops) {o : Oper} (ho : ops[i]? = some o) : nC o.op = true := by
 unfold mF at h
 simp only [eI] at h
 obtain ⟨⟨x, j⟩, hx, h⟩ := h
 dsimp only at h
 split at h
 ·rename_i hr
  simp only [dr] at h
  obtain ⟨m', _, e⟩ := h
  injection e with e1 e2
  subst e1
  have := fZ.1 hx
  have : ops[j]? = some x := by simpa using this
  rw [this] at ho
  injection ho with ho
  subst ho
  exact hr
 ·cases h
theorem b8y (kE : P.follows .mixedOrders = true) {k id : Nat} {ops : Array Oper} {C : Calls'} {H : Heap} (hC : CallsOk P C H) {lo : LOps} {tab : List (Nat × Nat)} {t : List (Nat × Option Nat × Option (Pth × Bool) × LOp)} (hlo : LowOps P k ops ops.toList lo) (htab : mT P ops = some tab) (hl : LowTab P ops tab t)
 {f : Fr} {l : List Value} {e : Ex} {f1 : Fr} {H1 : Heap} (hf : FRel k f l) (h : b8Y P C t (qJ P C lo [] f H) = .ok e f1 H1) : ∃ l1, e = .normal ∧ FRel k f1 l1 ∧ Sim P (.region id ops true) l H .normal l1 H1 ∧ LK H H1 := by
 cases hr : qJ P C lo [] f H with
 | no => rw [hr] at h; cases h
 | ok tr f2 H2 =>
   rw [hr] at h
   have h : nG (b4w (b3X P C tr H2) t) Rc.no (.ok .normal f2 H2) = .ok e f1 H1 := h
   rw [kJ] at h
   split at h
   case isFalse => cases h
   rename_i hall
   injection h with h1 h2 h3
   subst h1 h2 h3
   obtain ⟨T, val, l1, hT0, hTn, hf1, hN⟩ := b4K hC hlo (i := 0) rfl hf (.refl H) hr
   rw [fo, fU] at hTn
   rw [fo] at hN
   have hlk : LK H H2 := by have := hN.lk ops.size (eK _) (by omega); rwa [hTn] at this
   refine ⟨l1, rfl, hf1, ?_, hlk⟩
   have := Sim.draw kE (id := id) htab (T := T) (val := val) ⟨fun j hj => hN.step j (eK _) (by omega)⟩ ?_
   ·rw [hT0, hTn] at this; exact this
   ·intro i m o hm ho hw
    obtain ⟨o', lo', gd, ho', hgd, hlow, hmem⟩ := hl.get hm
    rw [ho] at ho'
    obtain rfl := cS ho'
    rw [b0n, di] at hall
    have hrd := hall _ hmem
    have hi : i < ops.size := (cZ.1 ho).1
    obtain ⟨g, hg, hag⟩ := hN.new i (eK _) (by omega)
    have hg : tr[ops.size - 1 - i]? = some (g, (T i).2, val i) := by rw [← hg]; congr 1; omega
    have hread : nC o.op = true := by
     obtain ⟨fl, _, rfl⟩ := pH htab
     exact a9x hm ho
    have fin : ∀ H3, LK H H3 → b7A (val i) (opF P C lo' g H3) = true → ∃ H4, opD P o (T i).1 H3 = some (val i, H4) := by
     intro H3 hk3 hq
     obtain ⟨H4, h4⟩ := b6I hq
     obtain ⟨hs, _⟩ := hlow C H g (T i).1 H3 (val i) H4 hC hk3 hag h4
     refine ⟨H4, hs.opD fun c fv hc hv => ?_⟩
     rw [hc] at hread
     simp [nC, hv] at hread
    unfold b3X at hrd
    simp only [xA, hg, hgd.runs hag hw] at hrd
    rw [kJ, if_pos rfl] at hrd
    by_cases hms : m < ops.size
    ·rw [if_pos hms] at hrd
     obtain ⟨g2, hg2, _⟩ := hN.new m (eK _) (by omega)
     have hg2 : tr[ops.size - 1 - m]? = some (g2, (T m).2, val m) := by rw [← hg2]; congr 1; omega
     simp only [hg2] at hrd
     exact fin _ (hN.lk m (eK _) (by omega)) hrd
    ·rw [if_neg hms] at hrd
     have hle : m = ops.size := by
      obtain ⟨fl, _, rfl⟩ := pH htab
      have := a1S hm
      omega
     subst hle
     have := fin H2 hlk hrd
     rw [hTn]; exact this
def tR (P : Program) : List ResultVar → List LRes → Prop
 | [], [] => True
 | r :: rs, l :: ls => (match r, l with
   | .tmp t, .t p => p = kN t
   | .cell a t, .c1 p => p = kN a ∧ jM P t = some false
   | .cell a t, .cn n p => p = kN a ∧ jM P t = some true ∧ iD P t = some n
   | _, _ => False) ∧ tR P rs ls
 | _, _ => False
theorem b3s {α : Type} (l : List ResultVar) (K : List LRes → α) (no : α) : (∃ r, tR P l r ∧ a0f P l K no = K r) ∨ a0f P l K no = no := by
 induction l generalizing K with
 | nil => exact .inl ⟨[], trivial, rfl⟩
 | cons r l ih =>
   cases r with
   | tmp t =>
     have e : a0f P (.tmp t :: l) K no = lJ (kN t) fun p => a0f P l (fun l => K (.t p :: l)) no := rfl
     rw [e, lG]
     rcases ih (fun l => K (.t (kN t) :: l)) with ⟨q, h1, h2⟩ | h2
     ·exact .inl ⟨.t (kN t) :: q, ⟨rfl, h1⟩, h2⟩
     ·exact .inr h2
   | cell a t =>
     have e : a0f P (.cell a t :: l) K no = match jM P t with
      | some true => a2s (iD P t) no fun n => lJ (kN a) fun p => a0f P l (fun l => K (.cn n p :: l)) no
      | some false => lJ (kN a) fun p => a0f P l (fun l => K (.c1 p :: l)) no
      | none => no := rfl
     rw [e]
     split
     ·rename_i ha
      cases hn : iD P t with
      | none => exact .inr rfl
      | some n =>
        rw [oG, lG]
        rcases ih (fun l => K (.cn n (kN a) :: l)) with ⟨q, h1, h2⟩ | h2
        ·exact .inl ⟨.cn n (kN a) :: q, ⟨⟨rfl, ha, hn⟩, h1⟩, h2⟩
        ·exact .inr h2
     ·rename_i ha
      rw [lG]
      rcases ih (fun l => K (.c1 (kN a) :: l)) with ⟨q, h1, h2⟩ | h2
      ·exact .inl ⟨.c1 (kN a) :: q, ⟨⟨rfl, ha⟩, h1⟩, h2⟩
      ·exact .inr h2
     ·exact .inr rfl
theorem b0J {H H1 : Heap} {f : Fr} {l : List Value} (hf : FAg f l) {r : ResultVar} {q : LRes} {rs : List ResultVar} {qs : List LRes} (h : tR P (r :: rs) (q :: qs)) {v : Value} (hv : (a2J H f q).Is v H1) : H1 = H ∧ a0I P l H r = some v ∧ tR P rs qs := by
 obtain ⟨h, hr⟩ := h
 cases r with
 | tmp t => cases q with
   | t p =>
     have h : p = kN t := h
     subst h
     have hv : (nP (nH (kN t) f) fun v => Rs.ok v H).Is v H1 := hv
     rw [mK] at hv
     obtain ⟨rfl, rfl⟩ := Rs.aL hv
     exact ⟨rfl, by rw [hf t]; rfl, hr⟩
   | c1 p => exact h.elim
   | cn n p => exact h.elim
 | cell a t => cases q with
   | t p => exact h.elim
   | c1 p =>
     obtain ⟨rfl, ha⟩ := h
     obtain ⟨e, h1⟩ := b0p (P := P) (X := .t (kN a)) (w := get l a) ha (hf a) hv
     exact ⟨e, h1, hr⟩
   | cn n p =>
     obtain ⟨rfl, ha, hn⟩ := h
     obtain ⟨e, h1⟩ := b0G (P := P) (X := .t (kN a)) (w := get l a) ha hn (hf a) hv
     exact ⟨e, h1, hr⟩
theorem b8c {H : Heap} {f : Fr} {q : LRes} {v : Value} {H1 : Heap} : ¬ (a2J H f q = .th v H1) := by
 intro h
 cases q with
 | t p =>
   have h : (nP (nH p f) fun v => Rs.ok v H) = .th v H1 := h
   rw [mK] at h; cases h
 | c1 p =>
   have h : b1p (.t p) f H = .th v H1 := h
   unfold b1p at h
   split at h
   ·unfold b8G at h
    split at h
    ·rw [kJ, kJ, kJ] at h
     split at h
     ·split at h
      ·split at h
       ·rename_i cs _ _ _ _ _ _ _ _
        cases hn : a0x cs _ with
        | none => rw [hn] at h; cases h
        | some w => rw [hn] at h; have h : (nP w fun v => Rs.ok v H) = .th v H1 := h; rw [mK] at h; cases h
       ·cases h
      ·cases h
     ·cases h
    ·cases h
   ·unfold b9G at h
    split at h
    ·rw [kJ] at h
     split at h
     ·rename_i cs _ _ _ _
      cases hn : a0x cs _ with
      | none => rw [hn] at h; cases h
      | some w => rw [hn] at h; have h : (nP w fun v => Rs.ok v H) = .th v H1 := h; rw [mK] at h; cases h
     ·cases h
    ·cases h
   ·cases h
 | cn n p =>
   have hh : b1M n (.t p) f H = .th v H1 := h
   unfold b1M at hh
   split at hh
   ·unfold b8A at hh
    split at hh
    ·rw [kJ, kJ, kJ] at hh
     split at hh
     ·split at hh
      ·split at hh
       ·have key : ∀ {cs : List Value} {n : Nat} {pre : List Value}, ¬ (a0N cs n fun l => Rs.ok (.agg ⟨pre ++ l⟩) H) = .th v H1 := by
         intro cs
         induction cs with
         | nil => intro n pre h; cases n <;> cases h
         | cons c cs ih =>
           intro n pre h
           cases n with
           | zero => cases h
           | succ n =>
             have h : (a0N cs n fun l => Rs.ok (.agg ⟨pre ++ (c :: l)⟩) H) = .th v H1 := h
             have e : ∀ l : List Value, pre ++ (c :: l) = (pre ++ [c]) ++ l := by intro l; simp
             have h2 : (a0N cs n fun l => Rs.ok (.agg ⟨(pre ++ [c]) ++ l⟩) H) = .th v H1 := by
              rw [← h]; congr 1; funext l; rw [e l]
             exact ih h2
        exact key (pre := []) hh
       ·cases hh
      ·cases hh
     ·cases hh
    ·cases hh
   ·cases hh
theorem a5l {H H1 : Heap} {f : Fr} {l : List Value} (hf : FAg f l) {v : Value} : ∀ {rs : List ResultVar} {qs : List LRes} {K : List Value → Rs}, tR P rs qs → (b3F H f qs K).Is v H1 → ∃ vs, mW P l H rs = some vs ∧ (K vs).Is v H1
 | [], [], K, _, h => ⟨[], rfl, h⟩
 | [], _ :: _, _, h, _ => h.elim
 | _ :: _, [], _, h, _ => h.elim
 | r :: rs, q :: qs, K, hl, h => by
   have h : (Rs.rec (motive := fun _ => Rs) .no (fun v _ => b3F H f qs fun l => K (v :: l)) (fun _ _ => .no) (a2J H f q)).Is v H1 := h
   cases hq : a2J H f q with
   | no => rw [hq] at h; exact absurd h Rs.ar
   | th w H2 => exact absurd hq b8c
   | ok w H2 =>
     rw [hq] at h
     obtain ⟨e, h1, h2⟩ := b0J hf hl (.inl hq)
     obtain ⟨vs, h3, h4⟩ := a5l hf h2 h
     exact ⟨w :: vs, by simp [mW, h1, h3], h4⟩
theorem b3r {fn : Func} {H H1 : Heap} {f : Fr} {l : List Value} (hf : FAg f l) {qs : List LRes} (hl : tR P fn.results.toList qs) {v : Value} (h : (a5D qs f H).Is v H1) : H1 = H ∧ iC P fn l H = some v := by
 unfold a5D at h
 split at h
 ·rename_i q
  cases hr : fn.results.toList with
  | nil => rw [hr] at hl; exact hl.elim
  | cons r rs =>
    rw [hr] at hl
    obtain ⟨e, h1, h2⟩ := b0J hf hl h
    cases rs with
    | cons _ _ => exact h2.elim
    | nil => exact ⟨e, by simp [iC, hr, mW, h1]⟩
 ·rename_i hne
  obtain ⟨vs, h1, h2⟩ := a5l hf hl h
  obtain ⟨h3, h4⟩ := kZ h2
  obtain ⟨rfl, rfl⟩ := Rs.aL h4
  refine ⟨rfl, ?_⟩
  have hlen : ∀ {rs : List ResultVar} {qs : List LRes}, tR P rs qs → rs.length = qs.length := by
   intro rs
   induction rs with
   | nil => intro qs h; cases qs with | nil => rfl | cons => exact h.elim
   | cons r rs ih => intro qs h; cases qs with | nil => exact h.elim | cons q qs => simp [ih h.2]
  have hvl : ∀ {rs : List ResultVar} {vs : List Value}, mW P l H1 rs = some vs → vs.length = rs.length := by
   intro rs
   induction rs with
   | nil => intro vs h; injection h with h; subst h; rfl
   | cons r rs ih =>
     intro vs h
     simp only [mW, cV, da] at h
     obtain ⟨w, _, ws, h1, h2⟩ := h
     subst h2
     simp [ih h1]
  have hn1 : vs.length ≠ 1 := by
   rw [hvl h1, hlen hl]
   intro h1
   match qs, h1 with
   | [q], _ => exact hne q rfl
  unfold iC
  rw [h1, cT]
  rw [b0n] at h3
  have h3 : vs.all jZ = true := by rw [← h3]; congr 1
  split
  ·exact absurd rfl hn1
  ·rw [if_pos h3]
structure FuncOk (P : Program) (f : FuncId) (g : LFunc) : Prop where
 ex : ∃ fn c, P.funcs[f]? = some fn ∧ fn.body = some c ∧ (fn.name == "runtime.NumGoroutine") = false ∧ g.ps = (List.range fn.ntmps).map kN ∧ Low P fn.ntmps c g.body ∧ tR P fn.results.toList g.res
def TOk (P : Program) (T : LT) : Prop := ∀ f g, a1p (kN f) T = some g → FuncOk P f g
def EOk (P : Program) (E : List LEnv) (H : Heap) : Prop := ∀ en ∈ E, en.L < H.length ∧ ∀ r, iP H en.L = some (.loop r) →
 ∃ k, en.ps = (List.range k).map kN ∧ r.tmps.size = k ∧ en.pp = r.params.toList.map kN ∧ (∀ t ∈ r.params.toList, t < k) ∧ Low P k r.assign en.a ∧ Low P k r.body en.b
theorem EOk.ag {E : List LEnv} {H H' : Heap} (h : EOk P E H) (hk : LK H H') : EOk P E H' := fun en hen => by
 obtain ⟨h1, h2⟩ := h en hen
 refine ⟨dA h1 hk.1, fun r' hr' => ?_⟩
 obtain ⟨r, hr, ea, eb, ep, et⟩ := hk.2 en.L r' h1 hr'
 obtain ⟨k, a, b, c, d, e, f⟩ := h2 r hr
 exact ⟨k, a, by rw [et]; exact b, by rw [ep]; exact c, by rw [ep]; exact d, by rw [ea]; exact e, by rw [eb]; exact f⟩
def a3j (P : Program) (ih : pE) : Prop := ∀ (E : List LEnv) (C : LCode) (k : Nat) (c : Code) (f : Fr) (l : List Value) (H : Heap) (e : Ex) (f1 : Fr) (H1 : Heap), Low P k c C → FRel k f l → EOk P E H → ih E C f H = .ok e f1 H1 →
 ∃ l1, FRel k f1 l1 ∧ Sim P c l H e l1 H1 ∧ LK H H1 ∧ ∀ b, c = .loop b → ∃ n, Rounds P b n l H e l1 H1
theorem yR {α : Type} {no : α} : ∀ {l : List Value} {i m : Nat} {f : Fr} {K : Fr → α}, (oM no l ((List.range' i m).map kN) f K = no) ∨ (l.length ≤ m ∧ ∃ f', oM no l ((List.range' i m).map kN) f K = K f' ∧ ∀ t, nH (kN t) f' = if i ≤ t ∧ t < i + l.length then get l (t - i) else nH (kN t) f)
 | [], i, m, f, K => .inr ⟨eK _, f, rfl, fun t => by rw [if_neg (by simp only [eY]; omega)]⟩
 | v :: l, i, 0, f, K => .inl rfl
 | v :: l, i, m + 1, f, K => by
   have e : oM no (v :: l) ((List.range' i (m + 1)).map kN) f K = pB v (kN i) f fun f => oM no l ((List.range' (i + 1) m).map kN) f K := by
    rw [gu]; rfl
   rw [e, rM]
   rcases yR (l := l) (i := i + 1) (m := m) (f := b3z f i v) (K := K) with h | ⟨h1, f', h2, h3⟩
   ·exact .inl h
   ·refine .inr ⟨by simp; omega, f', h2, fun t => ?_⟩
    rw [h3 t, a3h]
    by_cases ht : t = i
    ·subst ht
     rw [if_neg (by omega), if_pos rfl, if_pos (by simp), gT]; rfl
    ·rw [if_neg ht]
     by_cases h4 : i + 1 ≤ t ∧ t < i + 1 + l.length
     ·rw [if_pos h4, if_pos (by simp; omega)]
      rw [show t - i = (t - (i + 1)) + 1 by omega]; rfl
     ·rw [if_neg h4, if_neg (by simp; omega)]
theorem vH {α : Type} {no : α} {k : Nat} : ∀ {args : List Value} {ps : List Tmp} {f : Fr} {l : List Value} {K : Fr → α}, FRel k f l → (∀ t ∈ ps, t < k) → args.length = ps.length →
 ∃ f', oM no args (ps.map kN) f K = K f' ∧ FRel k f' ((ps.zip args).foldl (fun t (p, v) => t.set p v) l)
 | [], [], f, l, K, hf, _, _ => ⟨f, rfl, hf⟩
 | v :: args, p :: ps, f, l, K, hf, hp, he => by
   have e : oM no (v :: args) ((p :: ps).map kN) f K = pB v (kN p) f fun f => oM no args (ps.map kN) f K := rfl
   rw [e, rM]
   exact vH (hf.set (hp p (by simp)) v) (fun t ht => hp t (by simp [ht])) (by simpa using he)
 | [], _ :: _, _, _, _, _, _, he => by simp at he
 | _ :: _, [], _, _, _, _, _, he => by simp at he
theorem zC (l : List Value) (n t : Nat) : get (l ++ List.replicate n undef) t = get l t := by
 rw [nV, nV]
 simp only [cX]
 by_cases h : t < l.length
 ·rw [dZ h]
 ·rw [dS (by omega), dQ (l := l) (by omega), gG]
  split <;> rfl
theorem zS {T : LT} (hT : TOk P T) {ih : pE} (hih : a3j P ih) {E : List LEnv} {p : Pth} {f : FuncId} {args : List Value} {H H1 : Heap} {v : Value} (hE : EOk P E H) (hp : p = kN f) (h : (mJ T ih E p args H).Is v H1) :
 FnS P f args H (fun v' H' => v' = v ∧ H' = H1) ∧ LK H H1 := by
 unfold mJ at h
 split at h
 case h_2 => exact absurd h Rs.ar
 rename_i g hg
 subst hp
 obtain ⟨fn, c, hfn, hb, hn, hps, hlow, hres⟩ := (hT f g hg).ex
 rw [hps] at h
 rw [fz] at h
 rcases yR (no := Rs.no) (l := args) (i := 0) (m := fn.ntmps) (f := .e) (K := fun f => b9Z g.res (ih E g.body f H)) with h1 | ⟨h1, f0, h2, h3⟩
 ·rw [h1] at h; exact absurd h Rs.ar
 ·rw [h2] at h
  have hf0 : FRel fn.ntmps f0 (args ++ List.replicate (fn.ntmps - args.length) undef) := by
   refine ⟨by simp; omega, fun t => ?_⟩
   rw [h3 t, zC]
   by_cases ht : t < args.length
   ·rw [if_pos (by omega)]; rfl
   ·rw [if_neg (by omega), tX, nV, cX, dQ (by omega)]; try rfl
  cases hr : ih E g.body f0 H with
  | no => rw [hr] at h; exact absurd h Rs.ar
  | ok e f1 H2 =>
    rw [hr] at h
    obtain ⟨l1, hf1, hs, hk, _⟩ := hih E g.body fn.ntmps c f0 _ H e f1 H2 hlow hf0 hE hr
    have key : (e = .normal ∨ e = .ret) → (a5D g.res f1 H2).Is v H1 → FnS P f args H (fun v' H' => v' = v ∧ H' = H1) ∧ LK H H1 := by
     intro he hv
     obtain ⟨rfl, hv⟩ := b3r hf1.2 hres hv
     exact ⟨⟨fn, c, e, l1, H1, v, hfn, hb, hn, hs, he, hv, rfl, rfl⟩, hk⟩
    cases e with
    | normal => exact key (.inl rfl) h
    | ret => exact key (.inr rfl) h
    | exit id => exact absurd h Rs.ar
theorem b3o {T : LT} (hT : TOk P T) {ih : pE} (hih : a3j P ih) {E : List LEnv} {p : Pth} {f : FuncId} {args : List Value} {H H1 : Heap} {v : Value} (hE : EOk P E H) (hp : p = kN f) (h : (b5J P T ih E p f args H).Is v H1) :
 (FnS P f args H (fun v' H' => v' = v ∧ H' = H1) ∨ pI P f args H = some (v, H1)) ∧ LK H H1 := by
 unfold b5J at h
 cases hg : a1p p T with
 | some g =>
   rw [hg] at h
   obtain ⟨a, b⟩ := zS (H1 := H1) (v := v) hT hih hE hp (by unfold mJ; rw [hg]; exact h)
   exact ⟨.inl a, b⟩
 | none =>
   rw [hg] at h
   have h : (c0L P f args H).Is v H1 := h
   unfold c0L at h
   split at h
   ·rename_i v2 H2 hx
    obtain ⟨rfl, rfl⟩ := Rs.aP h
    exact ⟨.inr hx, a4t hx⟩
   ·exact absurd h Rs.ar
theorem a8Q {E : List LEnv} {L : Nat} {en : LEnv} (h : b5e E L = some en) : en ∈ E ∧ en.L = L := by
 induction E with
 | nil => cases h
 | cons e E ih =>
   have h : nG (Nat.beq e.L L) (b5e E L) (some e) = some en := h
   rw [kJ] at h
   split at h
   ·rename_i hh
    injection h with h
    subst h
    exact ⟨by simp, dK hh⟩
   ·obtain ⟨h1, h2⟩ := ih h
    exact ⟨dT _ h1, h2⟩
theorem a6H (e : Ex) : b8X e = qP e := by cases e <;> rfl
theorem b1r {ih : pE} (hih : a3j P ih) {E : List LEnv} {L : Nat} {args : List Value} {H H1 : Heap} {v : Value} (hE : EOk P E H) (h : (a8x ih E L args H).Is v H1) : yC P L args H v H1 ∧ LK H H1 := by
 unfold a8x at h
 split at h
 case h_2 => exact absurd h Rs.ar
 rename_i en hen
 obtain ⟨hmem, rfl⟩ := a8Q hen
 split at h
 case h_2 => exact absurd h Rs.ar
 rename_i p fn tmps ps a b d hg
 obtain ⟨hlen, h⟩ := kZ h
 rw [wW] at hlen
 have hlen : ps.size = args.length := by simpa only [decide_eq_true_eq] using hlen
 obtain ⟨k, hps, hsz, hpp, hpk, hla, hlb⟩ := (hE en hmem).2 _ hg
 have hsz : tmps.length = k := by simpa using hsz
 rw [hps, fz] at h
 rcases yR (no := Rs.no) (l := tmps) (i := 0) (m := k) (f := .e) (K := fun f => oM .no args en.pp f fun f => rS ih E en (ih E en.a f H)) with h1 | ⟨h1, f0, h2, h3⟩
 ·rw [h1] at h; exact absurd h Rs.ar
 rw [h2] at h
 have hf0 : FRel k f0 tmps := by
  refine ⟨hsz, fun t => ?_⟩
  rw [h3 t]
  by_cases ht : t < tmps.length
  ·rw [if_pos (by omega)]; rfl
  ·rw [if_neg (by omega), tX, nV, cX, dQ (by omega)]; try rfl
 rw [hpp] at h
 obtain ⟨f2, h4, hf2⟩ := vH (no := Rs.no) (args := args) (ps := ps.toList) (K := fun f => rS ih E en (ih E en.a f H)) hf0 hpk (by simpa using hlen.symm)
 have h : (oM Rs.no args (List.map kN ps.toList) f0 fun f => rS ih E en (ih E en.a f H)).Is v H1 := h
 rw [h4] at h
 cases hr1 : ih E en.a f2 H with
 | no => rw [hr1] at h; exact absurd h Rs.ar
 | ok e f3 H2 =>
   rw [hr1] at h
   obtain ⟨l3, hf3, hs1, hk1, _⟩ := hih E en.a k a f2 _ H e f3 H2 hla hf2 hE hr1
   cases e with
   | ret => exact absurd h Rs.ar
   | exit id => exact absurd h Rs.ar
   | normal =>
     have h : (yJ ih E en f3 H2).Is v H1 := h
     unfold yJ at h
     split at h
     case h_2 => exact absurd h Rs.ar
     rename_i p2 fn2 tmps2 ps2 a2 b2 d2 hg2
     rw [lU] at h
     obtain ⟨r0, hr0, ea, eb, ep, et⟩ := hk1.2 en.L _ (hE en hmem).1 hg2
     rw [hg] at hr0
     injection hr0 with hr0
     injection hr0 with hr0
     subst hr0
     have ea' : a2 = a := ea
     have eb' : b2 = b := eb
     have ep' : ps2 = ps := ep
     have et' : tmps2 = ⟨tmps⟩ := et
     clear ea eb ep et
     subst ea' eb' ep' et'
     have hk2 : LK H2 (hset H2 en.L (.loop ⟨.busy, p2, fn2, ⟨tmps⟩, ps2, a2, b2, d2⟩)) := .loop hg2 ⟨rfl, rfl, rfl, rfl⟩
     cases hr2 : ih E en.b f3 (hset H2 en.L (.loop ⟨.busy, p2, fn2, ⟨tmps⟩, ps2, a2, b2, d2⟩)) with
     | no => rw [hr2] at h; exact absurd h Rs.ar
     | ok e f4 H3 =>
       rw [hr2] at h
       obtain ⟨l4, _, hs2, hk3, _⟩ := hih E en.b k b2 f3 _ _ e f4 H3 hlb hf3 (hE.ag (hk1.trans hk2)) hr2
       have h : (a1H en.L e H3).Is v H1 := h
       unfold a1H at h
       split at h
       case h_2 => exact absurd h Rs.ar
       rename_i st3 p3 fn3 tmps3 ps3 a3 b3 d3 hg3
       have fin : ∀ r', H1 = hset H3 en.L (.loop r') → (r' = { (⟨st3, p3, fn3, tmps3, ps3, a3, b3, d3⟩ : Loop) with state := if (qP e).isNone then .ready else .done, pending := qP e }) → v = .bool (qP e).isNone → yC P en.L args H v H1 ∧ LK H H1 := by
        intro r' hH hr' hv
        refine ⟨?_, hk1.trans (hk2.trans (hk3.trans (by rw [hH]; exact .loop hg3 (by rw [hr']; exact ⟨rfl, rfl, rfl, rfl⟩))))⟩
        have hW := a0s (P := P) (args := args) (K := fun v' H' => v' = v ∧ H' = H1) hg hlen rfl
         ⟨.normal, l3, H2, hs1, rfl, _, hg2, rfl, e, l4, H3, hs2, _, hg3, hv.symm, by rw [hH, hr']⟩
        obtain ⟨v', H', h1, rfl, rfl⟩ := hW
        exact h1
       split at h
       ·rename_i hj
        obtain ⟨rfl, rfl⟩ := Rs.aP h
        rw [a6H] at hj
        exact fin _ rfl (by rw [hj]; rfl) (by rw [hj]; rfl)
       ·rename_i c hj
        obtain ⟨rfl, rfl⟩ := Rs.aP h
        rw [a6H] at hj
        exact fin _ rfl (by rw [hj]; rfl) (by rw [hj]; rfl)
theorem a3b {T : LT} (hT : TOk P T) {ih : pE} (hih : a3j P ih) {E : List LEnv} {H0 : Heap} (hE : EOk P E H0) : CallsOk P (zN P T ih E) H0 where
 fn p f args H v H1 hk h hp := b3o hT hih (hE.ag hk) hp h
 rd L args H v H1 hk h := b1r hih (hE.ag hk) h
theorem b9D {α : Type} {f : Fr} {l : List Value} (hf : FAg f l) (i m : Nat) (K : List Value → α) : frL f ((List.range' i m).map kN) K = K ((List.range' i m).map (get l)) := by
 induction m generalizing i K with
 | zero => rfl
 | succ m ih =>
   have e : frL f ((List.range' i (m + 1)).map kN) K = nP (nH (kN i) f) fun v => frL f ((List.range' (i + 1) m).map kN) fun l => K (v :: l) := by
    rw [gu]; rfl
   rw [e, mK, ih, hf i, gu]; rfl
theorem b6r {α : Type} {k : Nat} {f : Fr} {l : List Value} (hf : FRel k f l) (K : List Value → α) : frL f ((List.range k).map kN) K = K l := by
 rw [fz, b9D hf.2, ← fz]
 congr 1
 apply gk
 intro i
 rw [eu]
 by_cases hi : i < k
 ·rw [gA hi, dE, nV, cX]
  have : i < l.length := by rw [hf.1]; exact hi
  simp [de this]
 ·rw [dQ (by simp; omega), dQ (by rw [hf.1]; omega)]; rfl
theorem b1w {T : LT} (hT : TOk P T) {ih : pE} (hih : a3j P ih) {E : List LEnv} {k : Nat} {g : Operand} {ps : Array Tmp} {assign body : Code} {A B : LCode} (hg : iN g = true) (hps : ∀ t ∈ ps.toList, t < k) (ha : Low P k assign A) (hb : Low P k body B)
 {x1 x2 : Fr → Heap → Rc} {f : Fr} {l : List Value} {H : Heap} {e : Ex} {f1 : Fr} {H1 : Heap} (hf : FRel k f l) (hE : EOk P E H) (h : a9v T ih E (iU g) ((List.range k).map kN) (ps.toList.map kN) ps assign body A B x1 x2 f H = .ok e f1 H1) :
 f1 = f ∧ Sim P (.rangeFunc g ps assign body) l H e l H1 ∧ LK H H1 := by
 unfold a9v at h
 rw [jS hf.2] at h
 split at h
 case h_2 => cases h
 rename_i j xa xb hgv
 rw [jW, b6r hf, lU, jW] at h
 unfold b0h at h
 rw [lG] at h
 generalize hH0 : H.cons (.loop ⟨.ready, none, 0, ⟨l⟩, ps, assign, body, 0⟩) = H0 at h
 have hl0 : (⟨.ready, none, 0, ⟨l⟩, ps, assign, body, 0⟩ : Loop) = b0b l ps assign body := rfl
 have hE0 : EOk P (⟨H.length, (List.range k).map kN, ps.toList.map kN, A, B⟩ :: E) H0 := by
  intro en hen
  rcases dO.1 hen with rfl | hen
  ·refine ⟨by rw [← hH0, length_cons]; exact Nat.lt_succ_self _, fun r hr => ?_⟩
   rw [← hH0, iL] at hr
   injection hr with hr
   injection hr with hr
   subst hr
   exact ⟨k, rfl, by simpa using hf.1, rfl, hps, ha, hb⟩
  ·exact (hE.ag (by rw [← hH0]; exact .cons _ _)) en hen
 have key : ∀ v H2, (mJ T ih (⟨H.length, (List.range k).map kN, ps.toList.map kN, A, B⟩ :: E) (kN j) (a4d xa (.func (.yield H.length) #[] #[] :: xb)) H0).Is v H2 → sY H.length f H2 = .ok e f1 H1 → f1 = f ∧ Sim P (.rangeFunc g ps assign body) l H e l H1 ∧ LK H H1 := by
  intro v H2 hc hr
  obtain ⟨hfn, hk⟩ := zS hT hih hE0 rfl hc
  have hargs : a4d xa (.func (.yield H.length) #[] #[] :: xb) = xa ++ [.func (.yield H.length) #[] #[]] ++ xb := by rw [xV]; simp
  rw [hargs, ← hH0, hl0] at hfn
  have fin : ∀ (r : Loop) (H3 : Heap), iP H2 H.length = some (.loop r) → r.state ≠ .busy → H3 = hset H2 H.length (.loop { r with state := .exhausted }) → (r.pending = none → e = .normal) → (∀ c, r.pending = some c → (c = .ret ∧ e = .ret) ∨ ∃ id, c = .exit id ∧ e = .exit id) → f1 = f → H1 = H3 →
   f1 = f ∧ Sim P (.rangeFunc g ps assign body) l H e l H1 ∧ LK H H1 := by
   intro r H3 hrl hnb hH3 hp0 hp1 he1 he2
   have hw : Wp P (.rangeFunc g ps assign body) l H (fun e' l' H' => e' = e ∧ l' = l ∧ H' = H3) := by
    refine Wp.range (first := xa) (captured := xb) hg (by rw [hgv]) (hfn.mono ?_)
    rintro v' H' ⟨rfl, rfl⟩
    refine ⟨r, hrl, hnb, fun hp => ⟨(hp0 hp).symm, rfl, hH3.symm⟩, fun c hc => ?_⟩
    rcases hp1 c hc with ⟨rfl, he⟩ | ⟨id, rfl, he⟩
    ·exact Wp.ret ⟨he.symm, rfl, hH3.symm⟩
    ·exact Wp.exit ⟨he.symm, rfl, hH3.symm⟩
   obtain ⟨e', l', H', hs, rfl, rfl, rfl⟩ := hw
   refine ⟨he1, by rw [he2]; exact hs, ?_⟩
   rw [he2, hH3]
   have h1 : LK H H0 := by rw [← hH0]; exact .cons _ _
   exact h1.trans (hk.trans (.loop hrl ⟨rfl, rfl, rfl, rfl⟩))
  unfold sY at hr
  split at hr
  ·rename_i hg2
   rw [lU] at hr
   injection hr with h1 h2 h3
   exact fin _ _ hg2 (by simp) rfl (fun _ => h1.symm) (fun c hc => by cases hc) h2.symm h3.symm
  ·rename_i hg2
   rw [lU] at hr
   injection hr with h1 h2 h3
   exact fin _ _ hg2 (by simp) rfl (fun _ => h1.symm) (fun c hc => by cases hc) h2.symm h3.symm
  ·rename_i hg2
   rw [lU] at hr
   injection hr with h1 h2 h3
   exact fin _ _ hg2 (by simp) rfl (fun hc => by cases hc) (fun c hc => by injection hc with hc; subst hc; exact .inl ⟨rfl, h1.symm⟩) h2.symm h3.symm
  ·rename_i hg2
   rw [lU] at hr
   injection hr with h1 h2 h3
   exact fin _ _ hg2 (by simp) rfl (fun hc => by cases hc) (fun c hc => by injection hc with hc; subst hc; exact .inr ⟨_, rfl, h1.symm⟩) h2.symm h3.symm
  ·cases hr
 cases hc : mJ T ih (⟨H.length, (List.range k).map kN, ps.toList.map kN, A, B⟩ :: E) (kN j) (a4d xa (.func (.yield H.length) #[] #[] :: xb)) H0 with
 | no => rw [hc] at h; cases h
 | ok v H2 => rw [hc] at h; exact key v H2 (.inl hc) h
 | th v H2 =>
   rw [hc] at h
   have h : nE H2 (fun H => sY _ f H) = .ok e f1 H1 := h
   rw [lU] at h
   exact key v H2 (.inr hc) h
theorem c1y (kE : P.follows .mixedOrders = true) {T : LT} (hT : TOk P T) : ∀ n, a3j P (exF P T n) := by
 intro n
 induction n with
 | zero => intro E C k c f l H e f1 H1 _ _ _ h; cases h
 | succ n ih =>
   intro E C k c f l H e f1 H1 hlow hf hE h
   have h : a9Z P T (exF P T n) E C f H = .ok e f1 H1 := h
   have noloop : ∀ {c : Code}, (∀ b, c ≠ .loop b) → ∀ {l1 : List Value}, ∀ b, c = .loop b → ∃ n, Rounds P b n l H e l1 H1 := fun hne _ b hb => absurd hb (hne b)
   cases hlow with
   | bad => cases h
   | skip =>
     injection h with h1 h2 h3; subst h1 h2 h3
     exact ⟨l, hf, .skip l H, .refl H, noloop (by intro b h; cases h)⟩
   | label t =>
     injection h with h1 h2 h3; subst h1 h2 h3
     exact ⟨l, hf, .label t l H, .refl H, noloop (by intro b h; cases h)⟩
   | exit id =>
     injection h with h1 h2 h3; subst h1 h2 h3
     exact ⟨l, hf, .exit id l H, .refl H, noloop (by intro b h; cases h)⟩
   | ret =>
     injection h with h1 h2 h3; subst h1 h2 h3
     exact ⟨l, hf, .ret l H, .refl H, noloop (by intro b h; cases h)⟩
   | @reg id ops d lo hlo hd =>
     have h : c2E (wX P (zN P T (exF P T n) E) lo f H) = .ok e f1 H1 := h
     cases hr : wX P (zN P T (exF P T n) E) lo f H with
     | no => rw [hr] at h; cases h
     | ok f2 H2 =>
       rw [hr] at h
       injection h with h1 h2 h3; subst h1 h2 h3
       obtain ⟨l1, hf1, hops, hk⟩ := b6u (a3b hT ih hE) hlo (i := 0) rfl hf (.refl H) hr
       have hops : OpsR P ops (List.range ops.size) l H l1 H2 := by rw [fz]; simpa using hops
       refine ⟨l1, hf1, ?_, hk, noloop (by intro b h; cases h)⟩
       cases d with
       | false => exact .region hops
       | true => exact .bU kE (hd rfl) hops
   | drw hlo ht hl =>
     obtain ⟨l1, rfl, hf1, hs, hk⟩ := b8y kE (a3b hT ih hE) hlo ht hl hf h
     exact ⟨l1, hf1, hs, hk, noloop (by intro b h; cases h)⟩
   | @seq a b A B ha hb =>
     have h : b6t (exF P T n) E B (exF P T n E A f H) = .ok e f1 H1 := h
     cases hr : exF P T n E A f H with
     | no => rw [hr] at h; cases h
     | ok e2 f2 H2 =>
       rw [hr] at h
       obtain ⟨l2, hf2, hs, hk, _⟩ := ih E A k a f l H e2 f2 H2 ha hf hE hr
       cases e2 with
       | normal =>
         obtain ⟨l1, hf1, hs1, hk1, _⟩ := ih E B k b f2 l2 H2 e f1 H1 hb hf2 (hE.ag hk) h
         exact ⟨l1, hf1, .seq hs hs1, hk.trans hk1, noloop (by intro b h; cases h)⟩
       | ret =>
         injection h with h1 h2 h3; subst h1 h2 h3
         exact ⟨l2, hf2, .seq' hs (by intro h; cases h), hk, noloop (by intro b h; cases h)⟩
       | exit id =>
         injection h with h1 h2 h3; subst h1 h2 h3
         exact ⟨l2, hf2, .seq' hs (by intro h; cases h), hk, noloop (by intro b h; cases h)⟩
   | @cond c x y X Y hc hx hy =>
     have h : b5h (exF P T n) E (iU c) X Y (a9Z P T (exF P T n) E X) (a9Z P T (exF P T n) E Y) f H = .ok e f1 H1 := h
     unfold b5h at h
     rw [jS hf.2] at h
     split at h
     ·rename_i t ht
      cases t with
      | true =>
        obtain ⟨l1, hf1, hs, hk, _⟩ := ih E X k x f l H e f1 H1 hx hf hE h
        exact ⟨l1, hf1, .cond ht hc hs, hk, noloop (by intro b h; cases h)⟩
      | false =>
        obtain ⟨l1, hf1, hs, hk, _⟩ := ih E Y k y f l H e f1 H1 hy hf hE h
        exact ⟨l1, hf1, .cond ht hc hs, hk, noloop (by intro b h; cases h)⟩
     ·cases h
   | @block id b B hb =>
     have h : c3Y id (exF P T n E B f H) = .ok e f1 H1 := h
     cases hr : exF P T n E B f H with
     | no => rw [hr] at h; cases h
     | ok e2 f2 H2 =>
       rw [hr] at h
       obtain ⟨l2, hf2, hs, hk, _⟩ := ih E B k b f l H e2 f2 H2 hb hf hE hr
       have hs' : Sim P (.block id b) l H (e2.out id) l2 H2 := .block hs
       cases e2 with
       | normal => injection h with h1 h2 h3; subst h1 h2 h3; exact ⟨l2, hf2, hs', hk, noloop (by intro b h; cases h)⟩
       | ret => injection h with h1 h2 h3; subst h1 h2 h3; exact ⟨l2, hf2, hs', hk, noloop (by intro b h; cases h)⟩
       | exit i =>
         have h : Rc.ok (Bool.rec (motive := fun _ => Ex) (.exit i) .normal (Nat.beq i id)) f2 H2 = .ok e f1 H1 := h
         injection h with h1 h2 h3; subst h2 h3
         have : (Ex.exit i).out id = e := by
          rw [← h1]
          by_cases hi : i = id
          ·subst hi; simp [Ex.out]
          ·have : Nat.beq i id = false := fL.2 fun e => hi (dK e)
           simp [Ex.out, hi, this]
         rw [this] at hs'
         exact ⟨l2, hf2, hs', hk, noloop (by intro b h; cases h)⟩
   | @loop b B hb =>
     have h : b6t (exF P T n) E (.loop B) (exF P T n E B f H) = .ok e f1 H1 := h
     cases hr : exF P T n E B f H with
     | no => rw [hr] at h; cases h
     | ok e2 f2 H2 =>
       rw [hr] at h
       obtain ⟨l2, hf2, hs, hk, _⟩ := ih E B k b f l H e2 f2 H2 hb hf hE hr
       have last : e2 ≠ .normal → e2 = e → f2 = f1 → H2 = H1 → ∃ l1, FRel k f1 l1 ∧ Sim P (.loop b) l H e l1 H1 ∧ LK H H1 ∧ ∀ b', Code.loop b = .loop b' → ∃ n, Rounds P b' n l H e l1 H1 := by
        intro hne h1 h2 h3
        subst h1 h2 h3
        have hr : Rounds P b 1 l H e2 l2 H2 := .last hs hne
        exact ⟨l2, hf2, .loop hr, hk, fun b' hb' => by injection hb' with hb'; subst hb'; exact ⟨1, hr⟩⟩
       cases e2 with
       | normal =>
         obtain ⟨l1, hf1, hs1, hk1, hro⟩ := ih E (.loop B) k (.loop b) f2 l2 H2 e f1 H1 (.loop hb) hf2 (hE.ag hk) h
         obtain ⟨m, hm⟩ := hro b rfl
         have hr : Rounds P b (m + 1) l H e l1 H1 := .more hs hm
         exact ⟨l1, hf1, .loop hr, hk.trans hk1, fun b' hb' => by injection hb' with hb'; subst hb'; exact ⟨_, hr⟩⟩
       | ret => injection h with h1 h2 h3; exact last (by intro h; cases h) h1 h2 h3
       | exit id => injection h with h1 h2 h3; exact last (by intro h; cases h) h1 h2 h3
   | range hg hps ha hb =>
     obtain ⟨rfl, hs, hk⟩ := b1w (x1 := fun _ _ => .no) (x2 := fun _ _ => .no) hT ih hg hps ha hb hf hE h
     exact ⟨l, hf, hs, hk, noloop (by intro b h; cases h)⟩
theorem wY {α : Type} (v : LFunc) (p : Pth) (f : LT) (K : LT → α) : rD v p f K = K (rD v p f fun f => f) := by
 induction p generalizing f α with
 | z => cases f <;> rfl
 | l p ih =>
   cases f with
   | e =>
     show rD v p .e (fun l => K (.n none l .e)) = K (rD v p .e fun l => .n none l .e)
     rw [ih, ih (K := fun l => LT.n none l .e)]
   | n w l r =>
     show rD v p l (fun l => K (.n w l r)) = K (rD v p l fun l => .n w l r)
     rw [ih, ih (K := fun l => LT.n w l r)]
 | r p ih =>
   cases f with
   | e =>
     show rD v p .e (fun l => K (.n none .e l)) = K (rD v p .e fun l => .n none .e l)
     rw [ih, ih (K := fun l => LT.n none .e l)]
   | n w l r =>
     show rD v p r (fun r => K (.n w l r)) = K (rD v p r fun r => .n w l r)
     rw [ih, ih (K := fun r => LT.n w l r)]
theorem wD (p : Pth) : a1p p .e = none := by cases p <;> rfl
theorem b1S (v : LFunc) (p q : Pth) (f : LT) {g : LFunc} (h : a1p q (rD v p f fun f => f) = some g) : (q = p ∧ g = v) ∨ a1p q f = some g := by
 induction p generalizing f q with
 | z =>
   cases q with
   | z => left; refine ⟨rfl, ?_⟩; cases f <;> (injection h with h; exact h.symm)
   | l q => right; cases f with
     | e => have h : a1p q .e = some g := h
            rw [wD] at h; cases h
     | n => exact h
   | r q => right; cases f with
     | e => have h : a1p q .e = some g := h
            rw [wD] at h; cases h
     | n => exact h
 | l p ih =>
   have h1 : ∀ f, rD v (.l p) f (fun f => f) = match f with | .e => .n none (rD v p .e fun f => f) .e | .n w l r => .n w (rD v p l fun f => f) r := fun f => by
    cases f with
    | e => exact wY v p .e fun l => LT.n none l .e
    | n w l r => exact wY v p l fun l => LT.n w l r
   rw [h1] at h
   cases q with
   | z => right; cases f with
     | e => exact h
     | n => exact h
   | r q => right; cases f with
     | e => have h : a1p q .e = some g := h
            rw [wD] at h; cases h
     | n => exact h
   | l q =>
     cases f with
     | e =>
       rcases ih q .e h with ⟨rfl, hq⟩ | h
       ·exact .inl ⟨rfl, hq⟩
       ·rw [wD] at h; cases h
     | n w l r =>
       rcases ih q l h with ⟨rfl, hq⟩ | h
       ·exact .inl ⟨rfl, hq⟩
       ·exact .inr h
 | r p ih =>
   have h1 : ∀ f, rD v (.r p) f (fun f => f) = match f with | .e => .n none .e (rD v p .e fun f => f) | .n w l r => .n w l (rD v p r fun f => f) := fun f => by
    cases f with
    | e => exact wY v p .e fun l => LT.n none .e l
    | n w l r => exact wY v p r fun r => LT.n w l r
   rw [h1] at h
   cases q with
   | z => right; cases f with
     | e => exact h
     | n => exact h
   | l q => right; cases f with
     | e => have h : a1p q .e = some g := h
            rw [wD] at h; cases h
     | n => exact h
   | r q =>
     cases f with
     | e =>
       rcases ih q .e h with ⟨rfl, hq⟩ | h
       ·exact .inl ⟨rfl, hq⟩
       ·rw [wD] at h; cases h
     | n w l r =>
       rcases ih q r h with ⟨rfl, hq⟩ | h
       ·exact .inl ⟨rfl, hq⟩
       ·exact .inr h
theorem b1j {α : Type} (f : FuncId) (no : α) (K : LFunc → α) : (∃ g, FuncOk P f g ∧ a0Z P f no K = K g) ∨ a0Z P f no K = no := by
 unfold a0Z
 split
 ·rename_i fn hfn
  split
  ·rename_i c hb
   rw [kJ]
   split
   ·exact .inr rfl
   ·rename_i hn
    rcases b3s (P := P) fn.results.toList (fun res => b2b fn.ntmps fun ps => mU P fn.ntmps c fun b => K ⟨ps, b, res⟩) no with ⟨res, hres, h1⟩ | h1
    ·rw [h1, b0H]
     obtain ⟨C, hC, h2⟩ := b2P (P := P) fn.ntmps c (fun b => K ⟨(List.range fn.ntmps).map kN, b, res⟩)
     exact .inl ⟨⟨_, C, res⟩, ⟨fn, c, hfn, hb, by simpa using hn, rfl, hC, hres⟩, h2⟩
    ·exact .inr h1
  ·exact .inr rfl
 ·exact .inr rfl
theorem b3W {α : Type} (fs : List FuncId) (T : LT) (hT : TOk P T) (K : LT → α) : ∃ T', TOk P T' ∧ sQ P fs T K = K T' := by
 induction fs generalizing T with
 | nil => exact ⟨T, hT, rfl⟩
 | cons f fs ih =>
   have e : sQ P (f :: fs) T K = a0Z P f (sQ P fs T K) fun g => lJ (kN f) fun p => rD g p T fun T => sQ P fs T K := rfl
   rw [e]
   rcases b1j (P := P) f (sQ P fs T K) (fun g => lJ (kN f) fun p => rD g p T fun T => sQ P fs T K) with ⟨g, hg, h⟩ | h
   ·rw [h, lG, wY]
    refine ih _ fun f' g' h' => ?_
    rcases b1S g (kN f) (kN f') T h' with ⟨he, rfl⟩ | h'
    ·rw [b0r he]; exact hg
    ·exact hT f' g' h'
   ·rw [h]; exact ih T hT
end Go.Ds
namespace Go.Ds
open Go.Proofs Go.Proofs.Tryz
def t64 : List Nat := [0, 1, 56, 2, 57, 49, 28, 3, 61, 58, 42, 50, 38, 29, 17, 4, 62, 47, 59, 36, 45, 43, 51, 22, 53, 39, 33, 30, 24, 18, 12, 5, 63, 55, 48, 27, 60, 41, 37, 16, 46, 35, 44, 21, 52, 32, 23, 11, 54, 26, 40, 15, 34, 20, 31, 10, 25, 14, 19, 9, 13, 8, 7, 6]
def t32 : List Nat := [0, 1, 28, 2, 29, 14, 24, 3, 30, 22, 20, 15, 25, 17, 4, 8, 31, 27, 13, 23, 21, 19, 16, 7, 26, 12, 18, 6, 11, 5, 10, 9]
noncomputable def gH : Heap := ((((((Heap.nil.cons (.cells (t64.map fun (n : Nat) => Value.int .u8 (.ofNat n)) 5 false 0 1)).cons (.cells [] 3 false 0 1)).cons (.cells [] 275 false 0 1)).cons (.cells [] 275 false 0 1)).cons (.cells ([1, 10, 100, 1000, 10000, 100000, 1000000, 10000000, 100000000, 1000000000, 10000000000, 100000000000, 1000000000000, 10000000000000, 100000000000000, 1000000000000000, 10000000000000000, 100000000000000000, 1000000000000000000, 10000000000000000000].map fun (n : Nat) => Value.int .u64 (.ofNat n)) 39 false 0 1)).cons (.cells (t32.map fun (n : Nat) => Value.int .u8 (.ofNat n)) 5 false 0 1))
theorem c1T : prog.follows .mixedOrders = true := by kernel_rfl
def b1Q : Nat → Nat → List UInt8 → List UInt8
 | 0, _, acc => acc
 | f + 1, n, acc => if n < 10 then (48 + n).toUInt8 :: acc else b1Q f (n / 10) ((48 + n % 10).toUInt8 :: acc)
def oL (n : Nat) : ByteArray := ⟨(b1Q 100 n []).toArray⟩
theorem a4w {b : ByteArray} {n : Nat} (h : b.data.toList = b1Q 100 n []) : b = oL n := by
 cases b with | mk d => cases d with | mk l => simp only at h; subst h; rfl
def b0f (r : Rs) (n : Nat) : Bool := match r with
 | .ok (.string b) _ => decide (b.data.toList = b1Q 100 n [])
 | .th (.string b) _ => decide (b.data.toList = b1Q 100 n [])
 | _ => false
def b7l (v : Value) (n : Nat) : Bool := match v with
 | .tuple vs => match vs.toList with
   | [.string b, .int .i64 m] => decide (m = 0) && decide (b.data.toList = b1Q 100 n [])
   | _ => false
 | _ => false
def b5t (r : Rs) (n : Nat) : Bool := match r with
 | .ok v _ => b7l v n
 | .th v _ => b7l v n
 | _ => false
def b4O (r : Rs) (n : Int) : Bool := match r with
 | .ok (.int .i64 m) _ => decide (m = n)
 | .th (.int .i64 m) _ => decide (m = n)
 | _ => false
noncomputable def b9h (ps : List Nat) : Bool := sQ prog [133, 155, 136, 188, 213, 225, 232, 233, 234, 235, 241, 242, 243, 244, 248] .e fun T => ps.all fun x => b0f (mJ T (exF prog T 4000) [] (kN 155) [.int .i64 x] gH) x
def fsP : List Nat := [133, 223, 209, 211, 168, 154, 136, 222, 237, 201, 202, 184, 185, 186, 187, 191, 236, 245, 206, 207, 208, 210, 212, 196, 214, 220, 221, 224, 217, 232, 233, 234, 235, 241, 242, 243, 244, 248]
noncomputable def tE (ps : List Nat) : Bool := sQ prog fsP .e fun T => ps.all fun x => b5t (mJ T (exF prog T 4000) [] (kN 154) [.string (oL x), .int .i64 24] gH) (x ^ 24)
def fsM : List Nat := [133, 223, 209, 211, 168, 155, 156, 136, 188, 222, 237, 201, 202, 184, 185, 186, 187, 189, 191, 213, 236, 245, 206, 207, 208, 210, 212, 196, 214, 225, 220, 221, 224, 217, 232, 233, 234, 235, 241, 242, 243, 244, 248]
noncomputable def lS (ps : List (Nat × Nat)) : Bool := sQ prog fsM .e fun T => ps.all fun x => b0f (mJ T (exF prog T 4000) [] (kN 156) [.string (oL x.1), .string (oL x.2)] gH) (x.1 * x.2)
def rF (t : Nat × Nat) : List (Nat × Nat) := (t.1 ^ 24, 2) :: (List.range t.2).map fun k => (2 * t.1 ^ 24 * 4 ^ k, 4)
def a7u (t : Nat × Nat × Nat) : List (Nat × Nat) := (List.range (t.2.2 + 1)).map fun k => (t.1 ^ 24, 2 * t.2.1 ^ 24 * 4 ^ k)
def b3g (a b : Nat) : Int := if a < b then -1 else if b < a then 1 else 0
noncomputable def tW (ps : List (Nat × Nat)) : Bool := sQ prog [157, 190, 191, 192, 196, 214, 215, 217, 226] .e fun T => ps.all fun x => b4O (mJ T (exF prog T 4000) [] (kN 157) [.string (oL x.1), .string (oL x.2)] gH) (b3g x.1 x.2)
end Go.Ds
namespace Go.Ds
open Go.RowKit Go.Proofs
section
variable {P : Program} {ρ : Rho} {H : Heap} {w : World}
theorem a3I {name : String} {g : Nat} {k : IntKind} {zs : List Int} (hg : P.globalNamed name = some g) (ht : Lib.TabIs P w name k zs) : ∃ t fr, w.heap[g]? = some (.cells (zs.map fun z => Value.int k z).toArray t fr) := by
 unfold Lib.TabIs World.var? at ht
 rw [hg, cT] at ht
 split at ht
 ·rename_i cs t fr hb
  obtain rfl := cS ht
  exact ⟨t, fr, hb⟩
 ·cases ht
theorem InW.cI (h : InW P ρ H w) {name : String} {g : Nat} {k : IntKind} {zs : List Int} {ty : TypeId} (hg : P.globalNamed name = some g) (ht : Lib.TabIs P w name k zs) (hgH : g = H.length) (hty : iD P ty = some 1) :
 InW P (ρ.put H.length (zs.map fun z => Value.int k z).length ⟨g, 0, zs.length, 1⟩) (H.cons (.cells (zs.map fun z => Value.int k z) ty false 0 1)) w := by
 obtain ⟨t, fr, hb⟩ := a3I hg ht
 refine (h.row ⟨g, 0, zs.length, 1⟩ hb (ty := ty) hty (by simp) (zs.map fun z => Value.int k z) 1 (fun _ => ⟨hgH, rfl⟩) (by simp) fun i c hi _ hc => ⟨c, ?_, ?_⟩).1
 ·have : (⟨g, 0, zs.length, 1⟩ : Place).at i = i := by simp [Place.at]
  rw [this]
  simpa using hc
 ·rw [eu] at hc
  obtain ⟨z, _, rfl⟩ := da.1 hc
  exact .c0 (.flat rfl)
end
theorem c2r : ∀ A b, iP gH A = some b → ∃ cs ty lo, b = .cells cs ty false lo 1 ∧ kF cs = true := by
 intro A b h
 unfold gH at h
 have hn : ∀ (H : Heap) (c : Blk), iP (H.cons c) A = some b → (A = H.length ∧ b = c) ∨ iP H A = some b := fun H c h => by
  by_cases he : A = H.length
  ·subst he; rw [iL] at h; exact .inl ⟨rfl, (cS h).symm⟩
  ·have hA : A < (H.cons c).length := jH h
   rw [length_cons] at hA
   rw [jN _ (by omega)] at h
   exact .inr h
 rcases hn _ _ h with ⟨_, rfl⟩ | h
 ·exact ⟨_, _, _, rfl, by kernel_rfl⟩
 rcases hn _ _ h with ⟨_, rfl⟩ | h
 ·exact ⟨_, _, _, rfl, by kernel_rfl⟩
 rcases hn _ _ h with ⟨_, rfl⟩ | h
 ·exact ⟨_, _, _, rfl, by kernel_rfl⟩
 rcases hn _ _ h with ⟨_, rfl⟩ | h
 ·exact ⟨_, _, _, rfl, by kernel_rfl⟩
 rcases hn _ _ h with ⟨_, rfl⟩ | h
 ·exact ⟨_, _, _, rfl, by kernel_rfl⟩
 rcases hn _ _ h with ⟨_, rfl⟩ | h
 ·exact ⟨_, _, _, rfl, by kernel_rfl⟩
 ·have : A < 0 := jH h
  omega
theorem ExtW.glob {ρ ρ' : Rho} {H' : Heap} (h : ExtW ρ gH ρ' H') : Glob gH H' := ⟨h.len, fun A hA => h.old A hA, c2r⟩
def p10 : List Int := [1, 10, 100, 1000, 10000, 100000, 1000000, 10000000, 100000000, 1000000000, 10000000000, 100000000000, 1000000000000, 10000000000000, 100000000000000, 1000000000000000, 10000000000000000, 100000000000000000, 1000000000000000000, 10000000000000000000]
theorem g64 : Tryz.prog.globalNamed "math/bits.deBruijn64tab" = some 0 := by kernel_rfl
theorem sW : Tryz.prog.globalNamed "internal/strconv.uint64pow10" = some 4 := by kernel_rfl
theorem g32 : Tryz.prog.globalNamed "math/bits.deBruijn32tab" = some 5 := by kernel_rfl
theorem b8x {w : World} (h64 : Lib.TabIs Tryz.prog w "math/bits.deBruijn64tab" .u8 (t64.map Int.ofNat)) (h10 : Lib.TabIs Tryz.prog w "internal/strconv.uint64pow10" .u64 p10)
 (h32 : Lib.TabIs Tryz.prog w "math/bits.deBruijn32tab" .u8 (t32.map Int.ofNat)) (h1001 : ∃ cs t fr, w.heap[1]? = some (.cells cs t fr)) (h1002 : ∃ cs t fr, w.heap[2]? = some (.cells cs t fr)) (h1003 : ∃ cs t fr, w.heap[3]? = some (.cells cs t fr)) : ∃ ρ, InW Tryz.prog ρ gH w := by
 have a0 := (InW.none (P := Tryz.prog) w).cI g64 h64 (ty := 5) rfl (by kernel_rfl)
 obtain ⟨cs1, t1, fr1, hb1⟩ := h1001
 have a1 := (a0.row ⟨1, 0, cs1.size, 1⟩ hb1 (ty := 3) (by kernel_rfl) rfl [] 1 (fun _ => ⟨rfl, rfl⟩) (by simp) (fun i c hi => by simp at hi)).1
 obtain ⟨cs2, t2, fr2, hb2⟩ := h1002
 have a2 := (a1.row ⟨2, 0, cs2.size, 1⟩ hb2 (ty := 275) (by kernel_rfl) rfl [] 1 (fun _ => ⟨rfl, rfl⟩) (by simp) (fun i c hi => by simp at hi)).1
 obtain ⟨cs3, t3, fr3, hb3⟩ := h1003
 have a3 := (a2.row ⟨3, 0, cs3.size, 1⟩ hb3 (ty := 275) (by kernel_rfl) rfl [] 1 (fun _ => ⟨rfl, rfl⟩) (by simp) (fun i c hi => by simp at hi)).1
 have a4 := a3.cI sW h10 (ty := 39) rfl (by kernel_rfl)
 have a5 := a4.cI g32 h32 (ty := 5) rfl (by kernel_rfl)
 exact ⟨_, a5⟩
end Go.Ds
namespace Go.Ds
noncomputable section
variable {P : Program} {H0 : Base} {H : Heap} {os : List Ob} {κ β : Type} [DecidableEq κ] {enc : κ → Value} {f : β → Value} {t : TypeId} {z : Value}
structure MapK (P : Program) (t : TypeId) {κ : Type} [DecidableEq κ] (enc : κ → Value) (z : Value) : Prop where
 ex : ∃ kt et, xS P t = some (kt, et) ∧ iY P et = some z ∧ jA z = true ∧ (∀ b k, xX P b kt (enc k) = true) ∧
  (∀ k (es : List MapEntry) (ks : List κ), es.map (·.key) = ks.map enc → qQ P kt (enc k) es = some (ks.findIdx? fun x => decide (x = k))) ∧ ∀ k, Instr.sameBits 10000 (enc k) (enc k) = true
def kcs (enc : κ → Value) (f : β → Value) (kvs : List (κ × β)) : List Value := kvs.flatMap fun p => [enc p.1, f p.2]
def a1k (kvs : List (κ × β)) (k : κ) : Option β := (kvs.find? fun p => decide (p.1 = k)).map (·.2)
def a3L (kvs : List (κ × β)) (k : κ) (v : β) : List (κ × β) := match kvs.findIdx? (fun p => decide (p.1 = k)) with
 | some j => kvs.set j (k, v)
 | none => kvs ++ [(k, v)]
theorem a4T : ∀ (es : List MapEntry) (kvs : List (κ × β)), kcs enc f kvs = mcs es → es.map (·.key) = kvs.map (fun p => enc p.1) ∧ es.map (·.val) = kvs.map (fun p => f p.2)
 | [], [], _ => ⟨rfl, rfl⟩
 | [], p :: kvs, h => by simp [kcs, mcs] at h
 | e :: es, [], h => by simp [kcs, mcs] at h
 | e :: es, p :: kvs, h => by
   simp only [kcs, mcs, dD, ia, eX, fK] at h
   obtain ⟨h1, h2, h3⟩ := h
   obtain ⟨h4, h5⟩ := a4T es kvs h3
   simp only [dV]
   exact ⟨by rw [h4, h1], by rw [h5, h2]⟩
theorem a8M : ∀ (es : List MapEntry) (kvs : List (κ × β)), es.map (·.key) = kvs.map (fun p => enc p.1) → es.map (·.val) = kvs.map (fun p => f p.2) → kcs enc f kvs = mcs es
 | [], [], _, _ => rfl
 | [], p :: kvs, h, _ => by simp at h
 | e :: es, [], h, _ => by simp at h
 | e :: es, p :: kvs, h, h' => by
   simp only [dV, fK] at h h'
   have := a8M es kvs h.2 h'.2
   simp only [kcs, mcs, dD] at this ⊢
   rw [this, h.1, h'.1]
theorem St.bV (hS : St P H0 H os) (i : Nat) {A : Nat} {cs : List Value} (ho : os[i]? = some ⟨.map (some A), 0, cs⟩) : ∃ es ck ver, iP H A = some (.map es ck ver) ∧ cs = mcs es ∧ Stamps es ck := by
 have := hS.own _ (dG ho)
 unfold OwnAt at this
 rw [if_pos rfl] at this
 rcases this with ⟨_, _, _, _, _, _, h⟩ | ⟨A', es, ck, ver, h1, h2, h3, h4⟩
 ·cases h
 ·simp only [Value.map.injEq, du] at h3
  subst h3
  exact ⟨es, ck, ver, h1, h2, h4⟩
theorem b0e (kvs : List (κ × β)) (k : κ) : (∃ j x, (kvs.map (·.1)).findIdx? (fun x => decide (x = k)) = some j ∧ kvs[j]? = some x ∧ kvs.find? (fun p => decide (p.1 = k)) = some x) ∨ ((kvs.map (·.1)).findIdx? (fun x => decide (x = k)) = none ∧ kvs.find? (fun p => decide (p.1 = k)) = none) := by
 induction kvs with
 | nil => exact .inr ⟨rfl, rfl⟩
 | cons p kvs ih =>
   by_cases h : p.1 = k
   ·exact .inl ⟨0, p, by simp [eO, h], rfl, by simp [h]⟩
   ·rcases ih with ⟨j, x, h1, h2, h3⟩ | ⟨h1, h2⟩
    ·exact .inl ⟨j + 1, x, by simp [eO, h, h1], by simpa using h2, by simp [h, h3]⟩
    ·exact .inr ⟨by simp [eO, h, h1], by simp [h, h2]⟩
theorem St.cQ (hS : St P H0 H os) (i : Nat) {A : Nat} {kvs : List (κ × β)} (ho : os[i]? = some ⟨.map (some A), 0, kcs enc f kvs⟩) (hk : MapK P t enc z) (hf : ∀ b, mQ (f b) = true) (c : Bool) (k : κ) :
 oP P H t (.map (some A)) (enc k) c = some (pairV c (((a1k kvs k).map f).getD z) (a1k kvs k).isSome) := by
 obtain ⟨kt, et, h1, h2, h3, h4, h5, h6⟩ := hk.ex
 obtain ⟨es, ck, ver, h7, h8, _⟩ := hS.bV i ho
 obtain ⟨h9, h10⟩ := a4T es kvs h8
 have hi := h5 k es (kvs.map (·.1)) (by rw [h9]; simp [gR])
 simp only [oP, h1, cT, a2e, h7, h4, if_true, hi, a1k]
 rcases b0e kvs k with ⟨j, x, e1, e2, e3⟩ | ⟨e1, e3⟩
 ·have hj : es[j]?.map (·.val) = some (f x.2) := by
   rw [← eu, h10, eu, e2]; rfl
  cases he : es[j]? with
  | none => rw [he] at hj; simp at hj
  | some e =>
    rw [he] at hj
    simp only [dE, du] at hj
    simp only [e1, he, cT, hj, hf, if_true, e3, dE, eR, Option.isSome_some]
 ·simp only [e1, e3, Option.map_none, Option.getD_none, Option.isSome_none, h2, cT, h3, if_true]
def a7l (P : Program) (H : Heap) (t : TypeId) (x k : Value) (c : Bool) (K : Value → Prop) (_k : Keep K := ⟨⟩) : Prop := ∃ v, oP P H t x k c = some v ∧ K v
theorem a5d {t : TypeId} {x x' k k' : Value} {c : Bool} {K : Value → Prop} (h : x = x') (h2 : k = k') : a7l P H t x k c K = a7l P H t x' k' c K := by rw [h, h2]
attribute [congr] a5d
theorem a8k (d ty pos af g) (t : TypeId) (x k : Operand) (c : Bool) (l : List Value) (K : Value → Heap → Prop) :
 lW P ⟨d, .lookup t x k c, ty, pos, af, g⟩ l H K = jG x l fun x => jG k l fun k => a7l P H t x k c fun v => K v H := by
 have h2 : jY ((oP P H t (ev l x) (ev l k) c).map fun v => (v, H)) K = ∃ v, oP P H t (ev l x) (ev l k) c = some v ∧ K v H := by
  cases oP P H t (ev l x) (ev l k) c <;> simp [jY]
 simp only [lW, opD, jG, Op.operands, a7l, h2]
 simp [and_assoc]
theorem St.bK (hS : St P H0 H os) (i : Nat) {A : Nat} {kvs : List (κ × β)} (ho : os[i]? = some ⟨.map (some A), 0, kcs enc f kvs⟩) (hk : MapK P t enc z) (hf : ∀ b, mQ (f b) = true) {c : Bool} {k : κ} {K : Value → Prop}
 (h : K (pairV c (((a1k kvs k).map f).getD z) (a1k kvs k).isSome)) : a7l P H t (.map (some A)) (enc k) c K := ⟨_, hS.cQ i ho hk hf c k, h⟩
def a4v (P : Program) (H : Heap) (t : TypeId) (K : Value → Heap → Prop) (_k : Keep K := ⟨⟩) : Prop := ∃ v H1, oW P H t none = some (v, H1) ∧ K v H1
theorem a5v (d ty pos af g) (t : TypeId) (l : List Value) (K : Value → Heap → Prop) : lW P ⟨d, .makeMap t none, ty, pos, af, g⟩ l H K = a4v P H t K := by
 simp only [lW, opD, Op.operands, a4v, mN]
 simp
theorem St.bQ (hS : St P H0 H os) (hk : MapK P t enc z) {K : Value → Heap → Prop} (h : ∀ A H1, St P H0 H1 (os ++ [⟨.map (some A), 0, []⟩]) → K (.map (some A)) H1) : a4v P H t K := by
 obtain ⟨kt, et, h1, _⟩ := hk.ex
 refine ⟨.map (some H.length), H.cons (.map [] 0 0), by simp [oW, h1], h _ _ (hS.add ?_ ?_ ?_ ?_)⟩
 ·unfold OwnAt
  rw [if_pos rfl]
  exact .inr ⟨_, [], 0, 0, iL H _, rfl, rfl, .nil 0⟩
 ·simp [oO]
 ·exact fun B hB => jN _ hB
 ·intro B hB
  simp [kG] at hB
  omega
def b5W (P : Program) (H : Heap) (t : TypeId) (m k v : Value) (K : Heap → Prop) (_k : Keep K := ⟨⟩) : Prop := ∃ H1, a0u P H t m k v = some H1 ∧ K H1
theorem a7S {t : TypeId} {m m' k k' v v' : Value} {K : Heap → Prop} (h : m = m') (h2 : k = k') (h3 : v = v') : b5W P H t m k v K = b5W P H t m' k' v' K := by rw [h, h2, h3]
attribute [congr] a7S
theorem a2C (d ty pos af g) (t : TypeId) (m k v : Operand) (l : List Value) (K : Value → Heap → Prop) :
 lW P ⟨d, .mapUpdate t m k v, ty, pos, af, g⟩ l H K = jG m l fun m => jG k l fun k => jG v l fun v => b5W P H t m k v fun H1 => K undef H1 := by
 have h2 : jY ((a0u P H t (ev l m) (ev l k) (ev l v)).map fun H => (undef, H)) K = ∃ H1, a0u P H t (ev l m) (ev l k) (ev l v) = some H1 ∧ K undef H1 := by
  cases a0u P H t (ev l m) (ev l k) (ev l v) <;> simp [jY]
 simp only [lW, opD, jG, Op.operands, b5W, h2]
 simp [and_assoc]
theorem b0i (kvs : List (κ × β)) (k : κ) (v : β) : a3L kvs k v = match (kvs.map (·.1)).findIdx? (fun x => decide (x = k)) with | some j => kvs.set j (k, v) | none => kvs ++ [(k, v)] := by
 unfold a3L
 rw [List.findIdx?_map]
 rfl
theorem St.cb (hS : St P H0 H os) (i : Nat) {A : Nat} {kvs : List (κ × β)} (ho : os[i]? = some ⟨.map (some A), 0, kcs enc f kvs⟩) (hk : MapK P t enc z) {k : κ} {v : β} {K : Heap → Prop}
 (h : ∀ H1, St P H0 H1 (os.set i ⟨.map (some A), 0, kcs enc f (a3L kvs k v)⟩) → K H1) : b5W P H t (.map (some A)) (enc k) (f v) K := by
 obtain ⟨kt, et, h1, h2, h3, h4, h5, h6⟩ := hk.ex
 obtain ⟨es, ck, ver, h7, h8, hst⟩ := hS.bV i ho
 obtain ⟨h9, h10⟩ := a4T es kvs h8
 have hi := h5 k es (kvs.map (·.1)) (by rw [h9]; simp [gR])
 have fin : ∀ es' ck', mcs es' = kcs enc f (a3L kvs k v) → Stamps es' ck' → St P H0 (hset H A (.map es' ck' (ver + 1))) (os.set i ⟨.map (some A), 0, kcs enc f (a3L kvs k v)⟩) := by
  intro es' ck' he hst'
  refine hS.put i ho ?_ ?_ ?_ ?_
  ·unfold OwnAt
   rw [if_pos rfl]
   exact .inr ⟨A, es', ck', _, iQ _ (jH h7), he.symm, rfl, hst'⟩
  ·rw [jK]; exact db _
  ·intro B hB hne
   exact pY fun hh => hne (by simp [kG, hh])
  ·exact fun B hB => .inl hB
 rcases b0e kvs k with ⟨j, x, e1, e2, _⟩ | ⟨e1, _⟩
 ·have hj : es[j]?.map (·.key) = some (enc x.1) := by
   rw [← eu, h9, eu, e2]; rfl
  have hx : x.1 = k := by
   have := List.findIdx?_eq_some_iff_getElem.1 e1
   obtain ⟨hlt, hd, _⟩ := this
   have hlt' : j < kvs.length := by simpa using hlt
   have : kvs[j] = x := by
    rw [de hlt'] at e2
    exact cS e2
   simp [this] at hd
   exact hd
  cases he : es[j]? with
  | none => rw [he] at hj; simp at hj
  | some e =>
    rw [he] at hj
    simp only [dE, du] at hj
    refine ⟨hset H A (.map (es.set j { e with key := enc k, val := f v }) ck (ver + 1)), ?_, h _ (fin _ _ ?_ (hst.set he _ rfl))⟩
    ·have hsb : Instr.sameBits 10000 e.key (enc k) = true := by rw [hj, hx]; exact h6 k
     simp only [a0u, h1, cT, h7, h4, if_true, hi, e1, he, hsb]
    ·symm
     rw [b0i, e1]
     refine a8M _ _ ?_ ?_
     ·rw [List.map_set, List.map_set, h9]
     ·rw [List.map_set, List.map_set, h10]
 ·refine ⟨hset H A (.map (es ++ [{ key := enc k, val := f v, born := ck }]) (ck + 1) (ver + 1)), ?_, h _ (fin _ _ ?_ (hst.push _ rfl))⟩
  ·simp only [a0u, h1, cT, h7, h4, if_true, hi, e1]
  ·symm
   rw [b0i, e1]
   refine a8M _ _ ?_ ?_
   ·rw [dN, dN, h9]; rfl
   ·rw [dN, dN, h10]; rfl
def b6z (P : Program) (H : Heap) (t : TypeId) (m k : Value) (K : Value → Heap → Prop) (_k : Keep K := ⟨⟩) : Prop := ∃ v H1, rP P H t m k = some (v, H1) ∧ K v H1
theorem a8N {t : TypeId} {m m' k k' : Value} {K : Value → Heap → Prop} (h : m = m') (h2 : k = k') : b6z P H t m k K = b6z P H t m' k' K := by rw [h, h2]
attribute [congr] a8N
def a9T (H : Heap) (m b v : Value) (K : Heap → Prop) (_k : Keep K := ⟨⟩) : Prop := ∃ H1, qS H m b v = some H1 ∧ K H1
theorem a6Z {m m' b b' v v' : Value} {K : Heap → Prop} (h : m = m') (h2 : b = b') (h3 : v = v') : a9T H m b v K = a9T H m' b' v' K := by rw [h, h2, h3]
attribute [congr] a6Z
theorem a3Q (d ty pos af g) (t : TypeId) (m k : Operand) (l : List Value) (K : Value → Heap → Prop) :
 lW P ⟨d, .mapEntry t m k, ty, pos, af, g⟩ l H K = jG m l fun m => jG k l fun k => b6z P H t m k K := by
 have h2 : jY (rP P H t (ev l m) (ev l k)) K = ∃ v H1, rP P H t (ev l m) (ev l k) = some (v, H1) ∧ K v H1 := mN ..
 simp only [lW, opD, jG, Op.operands, b6z, h2]
 simp [and_assoc]
theorem a1D (d ty pos af g) (t : TypeId) (m b v : Operand) (l : List Value) (K : Value → Heap → Prop) :
 lW P ⟨d, .entryStore t m b v, ty, pos, af, g⟩ l H K = jG m l fun m => jG b l fun b => jG v l fun v => a9T H m b v fun H1 => K undef H1 := by
 have h2 : jY ((qS H (ev l m) (ev l b) (ev l v)).map fun H => (undef, H)) K = ∃ H1, qS H (ev l m) (ev l b) (ev l v) = some H1 ∧ K undef H1 := by
  cases qS H (ev l m) (ev l b) (ev l v) <;> simp [jY]
 simp only [lW, opD, jG, Op.operands, a9T, h2]
 simp [and_assoc]
theorem a1L (kvs : List (κ × β)) (k k' : κ) (v : β) : a1k (a3L kvs k v) k' = if k' = k then some v else a1k kvs k' := by
 unfold a1k a3L
 induction kvs with
 | nil =>
   by_cases h : k' = k
   ·simp [h]
   ·simp [h, eQ h]
 | cons p kvs ih =>
   by_cases hp : p.1 = k
   ·simp only [eO, hp, decide_true, if_true, fW, List.find?_cons]
    by_cases h : k' = k
    ·simp [h]
    ·simp [h, eQ h]
   ·have hd : decide (p.1 = k) = false := by simp [hp]
    simp only [eO, hd, dL, if_false]
    by_cases hq : p.1 = k'
    ·have hne : ¬ k' = k := fun e => hp (hq.trans e)
     cases hh : kvs.findIdx? (fun p => decide (p.1 = k)) with
     | none => simp [hq, hne]
     | some j => simp [hq, hne]
    ·cases hh : kvs.findIdx? (fun p => decide (p.1 = k)) with
     | none =>
       rw [hh] at ih
       simpa [hq, List.find?_cons] using ih
     | some j =>
       rw [hh] at ih
       simpa [hq, List.find?_cons] using ih
end
end Go.Ds
namespace Go.Ds
noncomputable section
variable {P : Program} {H : Heap}
theorem kI {α : Type} (P : Program) (x : α) : iK P (pure x) = some x := rfl
theorem jT {t : TypeId} {d : TypeDesc} (h : P.underlying t = some d) : iK P (underlying t) = some d := by
 unfold underlying
 rw [iG]
 have : iK P program = some P := rfl
 rw [this, cT, h]
 rfl
def lA : Operand → Bool
 | .const _ => true
 | _ => false
def nZ (c : Bool) (i : Nat) (v : Value) : Operand := if c then .const v else .tmp i
def kR (P : Program) (op : BinOp) (t t2 : TypeId) (cx cy : Bool) (x y : Value) : Option Value := (opD P ⟨none, .binOp op t (nZ cx 0 x) (nZ cy 1 y) t2, t, "", #[], none⟩ [x, y] .nil).map (·.1)
def kU (P : Program) (op : BinOp) (t t2 : TypeId) (cx cy : Bool) (x y : Value) (K : Value → Prop) (_k : Keep K := ⟨⟩) : Prop := match x, y with
 | .int k a, .int k' b => (match (if k = k' then mH op k a b else none) with | some v => K v | none => jU (kR P op t t2 cx cy (.int k a) (.int k' b)) K)
 | x, y => jU (kR P op t t2 cx cy x y) K
theorem a6J {op : BinOp} {t t2 : TypeId} {cx cy : Bool} {x x' y y' : Value} {K : Value → Prop} (h : x = x') (h2 : y = y') : kU P op t t2 cx cy x y K = kU P op t t2 cx cy x' y' K := by rw [h, h2]
attribute [congr] a6J
theorem a9l (x : Operand) (l m : List Value) : ev (ev l x :: m) (nZ (lA x) 0 (ev l x)) = ev l x := by cases x <;> rfl
theorem a7B (x : Operand) (l m : List Value) (a : Value) : ev (a :: ev l x :: m) (nZ (lA x) 1 (ev l x)) = ev l x := by cases x <;> rfl
theorem b4E (op : BinOp) (t : TypeId) (x y : Operand) (l : List Value) : eqGuard op t x y (ev l x) (ev l y) = eqGuard op t (nZ (lA x) 0 (ev l x)) (nZ (lA y) 1 (ev l y)) (ev l x) (ev l y) := by
 generalize hx : ev l x = vx
 generalize hy : ev l y = vy
 cases x <;> cases y <;> rfl
theorem b6S (d ty pos af g) (op : BinOp) (t : TypeId) (x y : Operand) (t2 : TypeId) (l : List Value) (H : Heap) :
 opD P ⟨d, .binOp op t x y t2, ty, pos, af, g⟩ l H = (kR P op t t2 (lA x) (lA y) (ev l x) (ev l y)).map fun v => (v, H) := by
 have hp : kH P ⟨d, .binOp op t x y t2, ty, pos, af, g⟩ l H = _ := mS (P := P) ⟨d, .binOp op t x y t2, ty, pos, af, g⟩ ⟨none, .binOp op t (nZ (lA x) 0 (ev l x)) (nZ (lA y) 1 (ev l y)) t2, t, "", #[], none⟩ l [ev l x, ev l y] H
  (by simp only [Op.operands, dV, fM, a9l, a7B]) (by
    simp only [execOp]
    rw [a9l, a7B, ← b4E])
 simp only [opD, kR, hp, a9l, a7B]
 generalize kH P _ _ _ = r
 generalize ev l x = vx
 generalize ev l y = vy
 split
 all_goals first
  | (split <;> first | rfl | (split <;> first | rfl | (cases r <;> rfl)) | (cases r <;> rfl))
  | (cases r <;> rfl)
theorem b3T (d ty pos af g) (op : BinOp) (t : TypeId) (x y : Operand) (t2 : TypeId) (l : List Value) (K : Value → Heap → Prop) :
 lW P ⟨d, .binOp op t x y t2, ty, pos, af, g⟩ l H K = jG x l fun x' => jG y l fun y' => kU P op t t2 (lA x) (lA y) x' y' fun v => K v H := by
 have h : jY (opD P ⟨d, .binOp op t x y t2, ty, pos, af, g⟩ l H) K = kU P op t t2 (lA x) (lA y) (ev l x) (ev l y) fun v => K v H := by
  have key : jY ((kR P op t t2 (lA x) (lA y) (ev l x) (ev l y)).map fun v => (v, H)) K = jU (kR P op t t2 (lA x) (lA y) (ev l x) (ev l y)) fun v => K v H := by
   cases kR P op t t2 (lA x) (lA y) (ev l x) (ev l y) <;> rfl
  rw [b6S, key]
  unfold kU
  split
  ·rename_i k a k' b hx hy
   split
   ·rename_i v hv
    split at hv
    ·rename_i hk
     subst hk
     have : kR P op t t2 (lA x) (lA y) (.int k a) (.int k b) = some v := by
      have h1 : ∀ m, ev ((.int k a : Value) :: m) (nZ (lA x) 0 (.int k a)) = .int k a := fun m => by cases lA x <;> rfl
      have h2 : ∀ m c, ev (c :: (.int k b : Value) :: m) (nZ (lA y) 1 (.int k b)) = .int k b := fun m c => by cases lA y <;> rfl
      cases op <;> simp only [mH] at hv <;> first | (cases hv; done) | (simp only [kR, opD, h1, h2, mH, if_true, hv]; rfl)
     rw [hx, hy, this]
     rfl
    ·cases hv
   ·rw [hx, hy]
  ·rfl
 simp only [lW, h, jG, Op.operands]
 simp [and_assoc]
theorem lV (op : BinOp) (t t2 : TypeId) (cx cy : Bool) (k : IntKind) (a b : Int) {v : Value} (K : Value → Prop) (h : mH op k a b = some v) : kU P op t t2 cx cy (.int k a) (.int k b) K = oA v K := by
 simp [kU, h, oA]
section
theorem b1y (t t2 : TypeId) (cx cy : Bool) (k : IntKind) (a b : Int) (K : Value → Prop) : kU P .add t t2 cx cy (.int k a) (.int k b) K = oA (.int k (k.wrap (a + b))) K := lV _ _ _ _ _ _ _ _ _ (by simp [mH, b0l, tH])
theorem b1K (t t2 : TypeId) (cx cy : Bool) (k : IntKind) (a b : Int) (K : Value → Prop) : kU P .sub t t2 cx cy (.int k a) (.int k b) K = oA (.int k (k.wrap (a - b))) K := lV _ _ _ _ _ _ _ _ _ (by simp [mH, b0m, tH])
theorem b1I (t t2 : TypeId) (cx cy : Bool) (k : IntKind) (a b : Int) (K : Value → Prop) : kU P .mul t t2 cx cy (.int k a) (.int k b) K = oA (.int k (k.wrap (a * b))) K := lV _ _ _ _ _ _ _ _ _ (by simp [mH, tH])
theorem b2N (t t2 : TypeId) (cx cy : Bool) (k : IntKind) (a b : Int) (K : Value → Prop) : kU P .eql t t2 cx cy (.int k a) (.int k b) K = oA (.bool (decide (a = b))) K := lV _ _ _ _ _ _ _ _ _ (by simp [mH, a1r]; rfl)
theorem b1n (t t2 : TypeId) (cx cy : Bool) (k : IntKind) (a b : Int) (K : Value → Prop) : kU P .neq t t2 cx cy (.int k a) (.int k b) K = oA (.bool (decide (¬ a = b))) K := lV _ _ _ _ _ _ _ _ _ (by simp [mH, a1r]; rfl)
theorem b1T (t t2 : TypeId) (cx cy : Bool) (k : IntKind) (a b : Int) (K : Value → Prop) : kU P .lss t t2 cx cy (.int k a) (.int k b) K = oA (.bool (decide (a < b))) K := lV _ _ _ _ _ _ _ _ _ (by simp [mH, yU])
theorem b2o (t t2 : TypeId) (cx cy : Bool) (k : IntKind) (a b : Int) (K : Value → Prop) : kU P .leq t t2 cx cy (.int k a) (.int k b) K = oA (.bool (decide (a ≤ b))) K := lV _ _ _ _ _ _ _ _ _ (by simp [mH, yU, ← Int.not_lt])
theorem b1x (t t2 : TypeId) (cx cy : Bool) (k : IntKind) (a b : Int) (K : Value → Prop) : kU P .gtr t t2 cx cy (.int k a) (.int k b) K = oA (.bool (decide (b < a))) K := lV _ _ _ _ _ _ _ _ _ (by simp [mH, yU])
theorem b0N (t t2 : TypeId) (cx cy : Bool) (k : IntKind) (a b : Int) (K : Value → Prop) : kU P .geq t t2 cx cy (.int k a) (.int k b) K = oA (.bool (decide (b ≤ a))) K := lV _ _ _ _ _ _ _ _ _ (by simp [mH, yU, ← Int.not_lt])
theorem b2s (t t2 : TypeId) (cx cy : Bool) (k : IntKind) (a b : Int) (K : Value → Prop) (hb : b ≠ 0) : kU P .rem t t2 cx cy (.int k a) (.int k b) K = oA (.int k (a.tmod b)) K := lV _ _ _ _ _ _ _ _ _ (by
 have : (b == 0) = false := by simp [hb]
 simp [mH, a1r, this])
theorem b1J (t t2 : TypeId) (cx cy : Bool) (k : IntKind) (a b : Int) (K : Value → Prop) (hb : b ≠ 0) : kU P .quo t t2 cx cy (.int k a) (.int k b) K = oA (.int k (k.wrap (a.tdiv b))) K := lV _ _ _ _ _ _ _ _ _ (by
 have : (b == 0) = false := by simp [hb]
 simp [mH, a1r, tH, this])
end
theorem lH {op : BinOp} {t t2 : TypeId} {cx cy : Bool} {x y v : Value} (hx : flat x = true) (hy : flat y = true) (hg : iK P (eqGuard op t (nZ cx 0 x) (nZ cy 1 y) x y) = some ())
 (hv : iK P (binOp op t x y) = some v) (hf : flat v = true) (hs : ∀ a n c, x ≠ .slice (some a) n c) (hp : ∀ a, x ≠ .pointer (some a)) (hi : ∀ k a b, x = .int k a → y = .int k b → mH op k a b = none) : kR P op t t2 cx cy x y = some v := by
 have h1 : ∀ m, ev (x :: m) (nZ cx 0 x) = x := fun m => by cases cx <;> rfl
 have h2 : ∀ m c, ev (c :: y :: m) (nZ cy 1 y) = y := fun m c => by cases cy <;> rfl
 have hpl : kH P ⟨none, .binOp op t (nZ cx 0 x) (nZ cy 1 y) t2, t, "", #[], none⟩ [x, y] .nil = some (v, .nil) := by
  unfold kH
  rw [if_pos (by simp [Op.operands, h1, h2, hx, hy])]
  have : execOp (ev [x, y]) ⟨none, .binOp op t (nZ cx 0 x) (nZ cy 1 y) t2, t, "", #[], none⟩ = (do let v ← (do eqGuard op t (nZ cx 0 x) (nZ cy 1 y) x y; binOp op t x y); pure (.value v)) := by
   simp only [execOp, h1, h2]
  rw [this, iG, iG, hg, cT, hv, cT, kI]
  simp only [hf, if_true]
 simp only [kR, opD, h1, h2, hpl]
 split
 ·exact absurd rfl (hs _ _ _)
 ·exact absurd rfl (hs _ _ _)
 ·rename_i k a k' b
  split
  ·rename_i hk
   subst hk
   rw [hi _ _ _ rfl rfl]
   rfl
  ·rfl
 ·exact absurd rfl (hp _)
 ·exact absurd rfl (hp _)
 ·exact absurd rfl (hp _)
 ·exact absurd rfl (hp _)
 ·rfl
theorem pL {op : BinOp} {t : TypeId} {x y : Operand} {k k' : IntKind} {a b : Int} : iK P (eqGuard op t x y (.int k a) (.int k' b)) = some () := by
 unfold eqGuard
 split <;> rfl
section
theorem b3n (t t2 : TypeId) (cx cy : Bool) (a b : Int) {k k' : IntKind} (hb : 0 ≤ b) : kR P .shr t t2 cx cy (.int k a) (.int k' b) = some (.int k (a.fdiv (2 ^ (min b.toNat k.bits)))) :=
 lH rfl rfl pL (by simp only [binOp, Op.shift]; rw [if_neg (by omega)]; rfl) rfl (by simp) (by simp) (by intros; rfl)
theorem b5L (t t2 : TypeId) (cx cy : Bool) (a b : Int) {k k' : IntKind} (hb : 0 ≤ b) : kR P .shl t t2 cx cy (.int k a) (.int k' b) = some (.int k (k.wrap (a * 2 ^ (min b.toNat k.bits)))) :=
 lH rfl rfl pL (by simp only [binOp, Op.shift]; rw [if_neg (by omega)]; rfl) rfl (by simp) (by simp) (by intros; rfl)
theorem b5S (t t2 : TypeId) (cx cy : Bool) (a b : Int) (k : IntKind) : kR P .and t t2 cx cy (.int k a) (.int k b) = some (.int k (k.wrap (BitVec.ofInt k.bits a &&& BitVec.ofInt k.bits b).toNat)) :=
 lH rfl rfl pL (by simp only [binOp]; rw [if_neg (by simp)]; rfl) rfl (by simp) (by simp) (by intros; rfl)
theorem b7C (t t2 : TypeId) (cx cy : Bool) (a b : Int) (k : IntKind) : kR P .or t t2 cx cy (.int k a) (.int k b) = some (.int k (k.wrap (BitVec.ofInt k.bits a ||| BitVec.ofInt k.bits b).toNat)) :=
 lH rfl rfl pL (by simp only [binOp]; rw [if_neg (by simp)]; rfl) rfl (by simp) (by simp) (by intros; rfl)
theorem b3A (t t2 : TypeId) (cx cy : Bool) (a b : Int) (k : IntKind) : kR P .xor t t2 cx cy (.int k a) (.int k b) = some (.int k (k.wrap (BitVec.ofInt k.bits a ^^^ BitVec.ofInt k.bits b).toNat)) :=
 lH rfl rfl pL (by simp only [binOp]; rw [if_neg (by simp)]; rfl) rfl (by simp) (by simp) (by intros; rfl)
theorem a6X (t t2 : TypeId) (cx cy : Bool) (a b : Int) (k : IntKind) : kR P .andNot t t2 cx cy (.int k a) (.int k b) = some (.int k (k.wrap (BitVec.ofInt k.bits a &&& ~~~ BitVec.ofInt k.bits b).toNat)) :=
 lH rfl rfl pL (by simp only [binOp]; rw [if_neg (by simp)]; rfl) rfl (by simp) (by simp) (by intros; rfl)
end
section
variable (a b : ByteArray)
theorem zW {op : BinOp} {t : TypeId} {x y : Operand} : iK P (eqGuard op t x y (.string a) (.string b)) = some () := by
 unfold eqGuard
 split <;> rfl
theorem a0l (h : a.data.toList = b.data.toList) : a = b := by
 cases a; cases b
 simp only [ByteArray.mk.injEq]
 exact Array.toList_inj.1 h
theorem a1h : (a.toList == b.toList) = decide (a = b) := by
 rw [ByteArray.toList_eq, ByteArray.toList_eq, dR, beq_iff_eq, decide_eq_true_iff]
 exact ⟨a0l a b, fun h => by rw [h]⟩
theorem a9G (t t2 : TypeId) (cx cy : Bool) (a b : ByteArray) : kR P .eql t t2 cx cy (.string a) (.string b) = some (.bool (decide (a = b))) :=
 lH rfl rfl (zW a b) (by rw [← a1h]; rfl) rfl (by simp) (by simp) (by intro _ _ _ h; cases h)
theorem a8d (t t2 : TypeId) (cx cy : Bool) (a b : ByteArray) : kR P .neq t t2 cx cy (.string a) (.string b) = some (.bool (decide (¬ a = b))) :=
 lH rfl rfl (zW a b) (by
  have : decide (¬ a = b) = !(a.toList == b.toList) := by rw [a1h]; simp
  rw [this]; rfl) rfl (by simp) (by simp) (by intro _ _ _ h; cases h)
theorem a6a (t t2 : TypeId) (cx cy : Bool) (a b : ByteArray) (h : a.size + b.size < 9223372036854775808) : kR P .add t t2 cx cy (.string a) (.string b) = some (.string (a ++ b)) :=
 lH rfl rfl (zW a b) (by
  simp only [binOp, Op.stringOp]
  rw [if_neg]
  ·rfl
  ·have : IntKind.i64.max = 9223372036854775807 := by decide
   rw [this]; omega) rfl (by simp) (by simp) (by intro _ _ _ h; cases h)
end
theorem b5i {t : TypeId} (s : ByteArray) (ht : nI P t = true) : zT P H t (.string s) = some (.int .i64 s.size) := by
 unfold nI at ht
 unfold zT
 split at ht
 ·rename_i h; rw [h]; simp [wC, goInt]
 ·cases ht
def oH (P : Program) (t : TypeId) (x i : Value) : Option Value := (opD P ⟨none, .index t (.const x) (.const i), t, "", #[], none⟩ [] .nil).map (·.1)
theorem b1a (d ty pos af g) (t : TypeId) (x i : Operand) (l : List Value) (K : Value → Heap → Prop) :
 lW P ⟨d, .index t x i, ty, pos, af, g⟩ l H K = jG x l fun x => jG i l fun i => jU (oH P t x i) fun v => K v H := by
 have h : opD P ⟨d, .index t x i, ty, pos, af, g⟩ l H = (oH P t (ev l x) (ev l i)).map fun v => (v, H) := by
  have hp := mS (P := P) ⟨d, .index t x i, ty, pos, af, g⟩ ⟨none, .index t (.const (ev l x)) (.const (ev l i)), t, "", #[], none⟩ l [] H rfl rfl
  simp only [opD, oH]
  exact hp
 have h2 : jY ((oH P t (ev l x) (ev l i)).map fun v => (v, H)) K = jU (oH P t (ev l x) (ev l i)) fun v => K v H := by cases oH P t (ev l x) (ev l i) <;> rfl
 simp only [lW, h, jG, Op.operands, h2]
 simp [and_assoc]
def nN (s : ByteArray) (i : Nat) : Nat := (s.data.toList.getD i 0).toNat
theorem a8V {t : TypeId} (s : ByteArray) (k : IntKind) (i : Int) (ht : nI P t = true) (h0 : 0 ≤ i) (h1 : i < s.size) : oH P t (.string s) (.int k i) = some (.int .u8 (nN s i.toNat)) := by
 have hu : P.underlying t = some .string := by
  unfold nI at ht
  split at ht
  ·rename_i h; exact h
  ·cases ht
 have hr : iK P (Instr.index t (.string s) (.int k i)) = some (.int .u8 (nN s i.toNat)) := by
  unfold Instr.index
  rw [iG]
  have e1 : iK P (asIntOf (.int k i)) = some (k, i) := rfl
  rw [e1, cT]
  simp only [iG, jT hu, cT]
  rw [if_pos h0]
  have hlt : i.toNat < s.size := by omega
  have hb : s[i.toNat]? = some s[i.toNat] := by simp [getElem?_pos, hlt]
  simp only [hb]
  rw [kI]
  congr 3
  unfold nN
  rw [cX]
  have hl : i.toNat < s.data.toList.length := by simpa using hlt
  rw [de hl]
  rfl
 have hpl : kH P ⟨none, .index t (.const (.string s)) (.const (.int k i)), t, "", #[], none⟩ [] .nil = some (.int .u8 (nN s i.toNat), .nil) := by
  unfold kH
  rw [if_pos (by rfl)]
  have : execOp (ev []) ⟨none, .index t (.const (.string s)) (.const (.int k i)), t, "", #[], none⟩ = (do let v ← Instr.index t (.string s) (.int k i); pure (.value v)) := rfl
  rw [this, iG, hr, cT, kI]
  rfl
 simp only [oH, opD, hpl]
 rfl
def a0t (P : Program) (t : TypeId) : Option IntKind := match P.underlying t with | some (.int k) => some k | _ => none
theorem zX {t : TypeId} {k : IntKind} (h : a0t P t = some k) : P.underlying t = some (.int k) := by
 unfold a0t at h
 split at h
 ·rename_i h2; rw [h2]; injection h with h; rw [h]
 ·cases h
theorem b1v {s t : TypeId} {k k' : IntKind} (a : Int) (hs : a0t P s = some k) (ht : a0t P t = some k') : a2h P s t (.int k a) = some (.int k' (k'.wrap a)) := by
 have hr : iK P (convert s t (.int k a)) = some (.int k' (k'.wrap a)) := by
  unfold convert
  simp only [iG, jT (zX hs), jT (zX ht), cT]
  rfl
 have hpl : kH P ⟨none, .convert s t (.const (.int k a)), t, "", #[], none⟩ [] .nil = some (.int k' (k'.wrap a), .nil) := by
  unfold kH
  rw [if_pos (by rfl)]
  have : execOp (ev []) ⟨none, .convert s t (.const (.int k a)), t, "", #[], none⟩ = (do let v ← convert s t (.int k a); pure (.value v)) := rfl
  rw [this, iG, hr, cT, kI]
  rfl
 simp only [a2h, hpl]
 rfl
def a3R (P : Program) (d : Nat) (xs ys : Array Value) (fs : List Field) : Option Bool :=
 (iK P (forIn fs ((none, ()) : Option Bool × Unit) fun f _ =>
   if f.name ≠ "_" then do
    let a ← part f.type xs f.offset
    let b ← part f.type ys f.offset
    let c ← Op.equalIn d f.type a b
    if (!c) = true then pure (ForInStep.done (some false, ())) else pure (ForInStep.yield (none, ()))
   else pure (ForInStep.yield (none, ())))).bind fun x => iK P (match x.fst with | some r => pure r | none => pure true)
theorem a0U {d : Nat} {xs ys : Array Value} (g : Field → Bool) : ∀ (fs : List Field), (∀ f ∈ fs, f.name ≠ "_" ∧ iK P (part f.type xs f.offset >>= fun x => part f.type ys f.offset >>= fun y => Op.equalIn d f.type x y) = some (g f)) →
 a3R P d xs ys fs = some (fs.all g)
 | [], _ => rfl
 | f :: fs, hg => by
   obtain ⟨h1, h2⟩ := hg f (dI ..)
   have ih := a0U g fs fun f' h => hg f' (dT _ h)
   unfold a3R at ih ⊢
   rw [iG] at h2
   simp only [List.forIn_cons, h1, ne_eq, not_false_eq_true, if_true, iG]
   cases hx : iK P (part f.type xs f.offset) with
   | none => rw [hx] at h2; cases h2
   | some x =>
     rw [hx, cT, iG] at h2
     cases hy : iK P (part f.type ys f.offset) with
     | none => rw [hy] at h2; cases h2
     | some y =>
       rw [hy, cT] at h2
       simp only [cT, h2]
       cases hgf : g f with
       | false =>
         simp only [Bool.not_false, if_true, kI, cT, fh, hgf, fA]
       | true =>
         simp only [Bool.not_true, dL, if_false, kI, cT, fh, hgf, gb]
         exact ih
theorem a6f {d : Nat} {t : TypeId} {fs : List Field} {xs ys : Array Value} (hu : P.underlying t = some (.struct fs.toArray)) (hst : P.stoodInHeld t = false) (g : Field → Bool)
 (hg : ∀ f ∈ fs, f.name ≠ "_" ∧ iK P (part f.type xs f.offset >>= fun x => part f.type ys f.offset >>= fun y => Op.equalIn d f.type x y) = some (g f)) : iK P (Op.equalIn (d + 1) t (.agg xs) (.agg ys)) = some (fs.all g) := by
 rw [Op.equalIn, iG, jT hu, cT]
 have hp : iK P program = some P := rfl
 simp only [iG, hp, cT, hst, dL, if_false, List.forIn_toArray]
 refine Eq.trans ?_ (a0U g fs hg)
 unfold a3R
 congr 1
 funext x
 cases x.fst <;> rfl
theorem a3D {op : BinOp} {t : TypeId} (ht : P.eqGuardType P.depth t = false) {x y : Operand} {a b : Array Value} : iK P (eqGuard op t x y (.agg a) (.agg b)) = some () := by
 have hp : iK P program = some P := rfl
 unfold eqGuard
 cases op <;> simp [iG, hp, ht, kI]
theorem b5U {t t2 : TypeId} {cx cy : Bool} {xs ys : List Value} (b : Bool) (ht : P.eqGuardType P.depth t = false) (hx : xs.all iX = true) (hy : ys.all iX = true) (h : iK P (Op.equalIn (9999 + 1) t (.agg xs.toArray) (.agg ys.toArray)) = some b) :
 kR P .eql t t2 cx cy (.agg xs.toArray) (.agg ys.toArray) = some (.bool b) :=
 lH (by simp [flat, jA, kF, hx]) (by simp [flat, jA, kF, hy]) (a3D ht) (by
  have hmd : Op.maxDepth = 9999 + 1 := by decide
  simp only [binOp, iG, Op.equal]
  rw [hmd, h, cT, kI]) rfl (by simp) (by simp) (by intro _ _ _ h; cases h)
theorem a6l {t t2 : TypeId} {cx cy : Bool} {xs ys : List Value} (b : Bool) (ht : P.eqGuardType P.depth t = false) (hx : xs.all iX = true) (hy : ys.all iX = true) (h : iK P (Op.equalIn (9999 + 1) t (.agg xs.toArray) (.agg ys.toArray)) = some b) :
 kR P .neq t t2 cx cy (.agg xs.toArray) (.agg ys.toArray) = some (.bool (!b)) :=
 lH (by simp [flat, jA, kF, hx]) (by simp [flat, jA, kF, hy]) (a3D ht) (by
  have hmd : Op.maxDepth = 9999 + 1 := by decide
  simp only [binOp, iG, Op.equal]
  rw [hmd, h, cT, kI]) rfl (by simp) (by simp) (by intro _ _ _ h; cases h)
end
end Go.Ds
namespace Go.Ds
noncomputable section
variable {P : Program} {H : Heap}
theorem a1C (a b : ByteArray) : (a == b) = decide (b = a) := by
 obtain ⟨x⟩ := a
 obtain ⟨y⟩ := b
 rw [dR, decide_eq_true_iff]
 constructor
 ·intro h
  have e : x = y := by simpa using (show (x == y) = true from h)
  rw [e]
 ·intro h
  cases h
  show (x == x) = true
  simp
theorem a3t (o : Option Nat) (i : Nat) : o.map (i + 1 + ·) = (o.map (· + 1)).map (i + ·) := by
 cases o with
 | none => rfl
 | some j => simp only [dE]; congr 1; omega
theorem a0p (k : ByteArray) : ∀ (es : List MapEntry) (ks : List ByteArray) (i : Nat), es.map (·.key) = ks.map Value.string →
 (Instr.findNow .string (.string k) (es.map vT) i).map (·.map (·.1)) = some ((ks.findIdx? fun x => decide (x = k)).map (i + ·))
 | [], [], i, _ => rfl
 | [], _ :: _, _, h => by simp at h
 | _ :: _, [], _, h => by simp at h
 | e :: es, s :: ks, i, h => by
   simp only [dV, fK] at h
   have hs : Instr.sameNow .string (.string k) e.key = some (decide (s = k)) := by
    rw [h.1]
    show some (k == s) = _
    rw [a1C]
   simp only [dV, Instr.findNow, vT, hs, eO]
   by_cases hd : s = k
   ·simp [hd]
   ·simp only [hd, decide_false, dL, if_false]
    have := a0p k es ks (i + 1) h.2
    rw [a3t] at this
    exact this
theorem b0k {κ : Type} [DecidableEq κ] {enc : κ → Value} {kt : TypeId} (heq : ∀ a b, iK P (Op.equal kt (enc a) (enc b)) = some (decide (b = a))) (k : κ) : ∀ (es : List MapEntry) (ks : List κ) (i : Nat), es.map (·.key) = ks.map enc →
 (iK P (Instr.findAsking kt (enc k) (es.map vT) i)).map (·.map (·.1)) = some ((ks.findIdx? fun x => decide (x = k)).map (i + ·))
 | [], [], i, _ => rfl
 | [], _ :: _, _, h => by simp at h
 | _ :: _, [], _, h => by simp at h
 | e :: es, s :: ks, i, h => by
   simp only [dV, fK] at h
   simp only [dV, Instr.findAsking, vT, iG, eO]
   rw [h.1, heq, cT]
   by_cases hd : s = k
   ·simp [hd, kI]
   ·simp only [hd, decide_false, dL, if_false]
    have := b0k heq k es ks (i + 1) h.2
    rw [a3t] at this
    exact this
theorem MapK.str {t kt et : TypeId} {z : Value} (hm : xS P t = some (kt, et)) (hu : P.underlying kt = some .string) (hz : iY P et = some z) (hf : jA z = true) : MapK P t Value.string z where
 ex := by
  refine ⟨kt, et, hm, hz, hf, ?_, ?_, ?_⟩
  ·intro b k
   have : iK P (Instr.checkKey b 10000 kt (.string k)) = some () := by
    show iK P (Instr.checkKey b (9999 + 1) kt (.string k)) = some ()
    unfold Instr.checkKey
    rw [iG, jT hu, cT]
    rfl
   simp only [xX, this]
   rfl
  ·intro k es ks h
   have h1 := a0p k es ks 0 h
   unfold qQ Instr.findKey
   rw [iG, jT hu, cT]
   cases hn : Instr.findNow .string (.string k) (es.map vT) 0 with
   | none => rw [hn] at h1; cases h1
   | some r =>
     rw [hn] at h1
     simp only [kI]
     simpa using h1
  ·intro k
   show (k == k) = true
   rw [a1C]
   simp
theorem MapK.struct {κ : Type} [DecidableEq κ] {enc : κ → Value} {t kt et : TypeId} {z : Value} {fs : Array Field} (hm : xS P t = some (kt, et)) (hu : P.underlying kt = some (.struct fs)) (hz : iY P et = some z) (hf : jA z = true)
 (hk : ∀ b k, xX P b kt (enc k) = true) (heq : ∀ a b, iK P (Op.equal kt (enc a) (enc b)) = some (decide (b = a))) (hsb : ∀ k, Instr.sameBits 10000 (enc k) (enc k) = true) : MapK P t enc z where
 ex := by
  refine ⟨kt, et, hm, hz, hf, hk, ?_, hsb⟩
  intro k es ks h
  have h1 := b0k heq k es ks 0 h
  unfold qQ Instr.findKey
  rw [iG, jT hu, cT]
  have key : ∀ (l : List MapEntry), Instr.findNow (.struct fs) (enc k) l 0 = none ∨ l = [] := by
   intro l
   cases l with
   | nil => exact .inr rfl
   | cons e l => exact .inl rfl
  rcases key (es.map vT) with hn | hn
  ·rw [hn]
   simpa using h1
  ·rw [hn]
   have : es = [] := by simpa using hn
   subst this
   have : ks = [] := by cases ks with | nil => rfl | cons a ks => simp at h
   subst this
   rfl
end
end Go.Ds
namespace Go.Ds
noncomputable section
variable {P : Program} {H : Heap}
def a1q (o : Option (Nat × TypeId)) (P : Program) (H : Heap) (t : TypeId) (z : Value) (K : Value → Heap → Prop) (_k : Keep K := ⟨⟩) : Prop := match o with
 | none => tI (jA z) (a4D P H t z K)
 | some _ => tI (jA z) (a8C P H t z K)
theorem a4G {o o' : Option (Nat × TypeId)} {t : TypeId} {z : Value} {K : Value → Heap → Prop} (h : o = o') : a1q o P H t z K = a1q o' P H t z K := by rw [h]
attribute [congr] a4G
theorem b4U {t : TypeId} (z : Value) (K : Value → Heap → Prop) : tO P H t (some z) K = a1q (jL P t) P H t z K := by
 cases h : jL P t with
 | none => exact a5m z K h
 | some n => exact a7G z K h
theorem a5j {t : TypeId} (z : Value) (K : Value → Heap → Prop) : a1q none P H t z K = tI (jA z) (a4D P H t z K) := rfl
theorem a6T {t : TypeId} (n : Nat × TypeId) (z : Value) (K : Value → Heap → Prop) : a1q (some n) P H t z K = tI (jA z) (a8C P H t z K) := rfl
theorem a5I {t : TypeId} {k : IntKind} (h : a0t P t = some k) : kY P t = false := by
 simp [kY, zX h]
def a2F (ks kt : Option IntKind) (P : Program) (s t : TypeId) (H : Heap) (k : IntKind) (a : Int) (K : Value → Heap → Prop) (_k : Keep K := ⟨⟩) : Prop := match ks, kt with
 | some k0, some k' => if k0 = k then K (.int k' (k'.wrap a)) H else sK P s t H (.int k a) K
 | _, _ => sK P s t H (.int k a) K
theorem a5A {ks ks' kt kt' : Option IntKind} {s t : TypeId} {k : IntKind} {a : Int} {K : Value → Heap → Prop} (h : ks = ks') (h2 : kt = kt') : a2F ks kt P s t H k a K = a2F ks' kt' P s t H k a K := by rw [h, h2]
attribute [congr] a5A
theorem b8j {s t : TypeId} (k : IntKind) (a : Int) (K : Value → Heap → Prop) : sK P s t H (.int k a) K = a2F (a0t P s) (a0t P t) P s t H k a K := by
 unfold a2F
 split
 ·rename_i k0 k' hs ht
  split
  ·rename_i hk
   subst hk
   rw [b2J k0 a K (a5I ht), b1v a hs ht]
   rfl
  ·rfl
 ·rfl
theorem b1B {s t : TypeId} (k k' : IntKind) (a : Int) (K : Value → Heap → Prop) : a2F (some k) (some k') P s t H k a K = oA (.int k' (k'.wrap a)) fun v => K v H := by simp [a2F, oA]
def c1m (b : Bool) (P : Program) (H : Heap) (t : TypeId) (v : Value) : Option Value := match b with
 | true => (match v with | .string s => some (.int .i64 s.size) | _ => zT P H t v)
 | false => zT P H t v
theorem c1s (t : TypeId) (v : Value) : a9a none P H t v = c1m (nI P t) P H t v := by
 unfold c1m
 split
 ·rename_i h
  split
  ·exact b5i _ h
  ·rfl
 ·rfl
theorem b4u (t : TypeId) (s : ByteArray) : c1m true P H t (.string s) = some (.int .i64 s.size) := rfl
def a1J (b : Bool) (P : Program) (t : TypeId) (x i : Value) : Option Value := match b, x, i with
 | true, .string s, .int k i => if 0 ≤ i ∧ i < s.size then some (.int .u8 (nN s i.toNat)) else oH P t (.string s) (.int k i)
 | _, x, i => oH P t x i
theorem a7b (t : TypeId) (x i : Value) : oH P t x i = a1J (nI P t) P t x i := by
 unfold a1J
 split
 ·rename_i h
  split
  ·rename_i h2; exact a8V _ _ _ h h2.1 h2.2
  ·rfl
 ·rfl
theorem a8e (t : TypeId) (s : ByteArray) (k : IntKind) (i : Int) (h0 : 0 ≤ i) (h1 : i < s.size) : a1J true P t (.string s) (.int k i) = some (.int .u8 (nN s i.toNat)) := by
 simp [a1J, h0, h1]
theorem OC : (∀ k n, oneCell (.int k n) = true) ∧ (∀ b, oneCell (.bool b) = true) ∧ (∀ s, oneCell (.string s) = true) ∧ (∀ a, oneCell (.pointer a) = true) ∧ (∀ a n c, oneCell (.slice a n c) = true) ∧ (∀ r, oneCell (.map r) = true) ∧ (∀ f a b, oneCell (.func f a b) = true) ∧ oneCell .nilFunc = true :=
 ⟨fun _ _ => rfl, fun _ => rfl, fun _ => rfl, fun _ => rfl, fun _ _ _ => rfl, fun _ => rfl, fun _ _ _ => rfl, rfl⟩
theorem c3C (o : Option Bool) : (o.map Value.bool).getD (.bool false) = .bool (o.getD false) := by cases o <;> rfl
theorem c3z (k : IntKind) (o : Option Int) : (o.map (Value.int k)).getD (.int k 0) = .int k (o.getD 0) := by cases o <;> rfl
theorem b8r (v : Value) (b : Bool) : pairV false v b = v := rfl
theorem b6n (v : Value) (b : Bool) : pairV true v b = .tuple #[v, .bool b] := rfl
theorem b5r (t : Tmp) : lA (.tmp t) = false := rfl
theorem a7K (v : Value) : lA (.const v) = true := rfl
theorem b4o (s : ByteArray) : flat (.string s) = true := rfl
theorem b1c (s : ByteArray) : jA (.string s) = true := rfl
theorem a8I (s : ByteArray) : iX (.string s) = true := rfl
theorem a6c (s : ByteArray) : jZ (.string s) = true := rfl
theorem b4M (k : IntKind) (n : Int) : oU (.int k n) = true := rfl
theorem b2E (b : Bool) : oU (.bool b) = true := rfl
theorem b5g (s : ByteArray) : oU (.string s) = true := rfl
theorem a2K {c b : Bool} {p q : Prop} (h1 : c = true → rB (.bool true) b p q) (h2 : c = false → rB (.bool false) b p q) : rB (.bool c) b p q := by
 cases c
 ·exact h2 rfl
 ·exact h1 rfl
theorem St.pick {H0 : Base} {os os' : List Ob} (hS : St P H0 H os) (idx : List Nat) (hn : idx.Nodup) (h : idx.map (os[·]?) = os'.map some) : St P H0 H os' := by
 have hmem : ∀ o ∈ os', o ∈ os := by
  intro o ho
  have : some o ∈ idx.map (os[·]?) := by rw [h]; exact fE ho
  obtain ⟨i, _, hi⟩ := dr.1 this
  exact dG hi
 refine ⟨hS.len, hS.old, fun o ho => hS.own o (hmem o ho), fun o ho => hS.new o (hmem o ho), ?_⟩
 have hpw := eh.1 hS.sep
 rw [eh]
 intro i j hi hj hij
 have hl : idx.length = os'.length := by simpa using congrArg List.length h
 have key : ∀ i (hi : i < os'.length), ∃ hk : idx[i]'(by omega) < os.length, os[idx[i]'(by omega)] = os'[i] := by
  intro i hi
  have h1 : (idx.map (os[·]?))[i]? = (os'.map some)[i]? := by rw [h]
  rw [eu, eu, de (by omega), de hi] at h1
  simp only [dE, du] at h1
  exact dj.1 h1
 obtain ⟨h1, e1⟩ := key i hi
 obtain ⟨h2, e2⟩ := key j hj
 have hne : idx[i]'(by omega) ≠ idx[j]'(by omega) := by
  have := eh.1 hn i j (by omega) (by omega) hij
  exact this
 rcases fH hne with hh | hh
 ·have := hpw _ _ h1 h2 hh
  rw [e1, e2] at this
  exact this
 ·have := hpw _ _ h2 h1 hh
  rw [e1, e2] at this
  intro B hb hb'
  exact this B hb' hb
theorem St.frame {H1 : Heap} {H0 : Base} {ls rest ls' : List Ob} (hS : St P H0 H (ls ++ rest)) (h1 : St P ⟨H, qU ls⟩ H1 ls') : St P H0 H1 (ls' ++ rest) := by
 have hls : St P H0 H ls := hS.sub (List.sublist_append_left ..)
 have h2 := hls.bp h1
 have hsep := eP.1 hS.sep
 have hkeep : ∀ o ∈ rest, ∀ B, kG o.v = some B → iP H1 B = iP H B := by
  intro o ho B hB
  have hlt := (hS.own o (gh _ ho)).lt hB
  exact h1.old B hlt fun ⟨x, hx, hxb⟩ => hsep.2.2 x hx o ho B hxb hB
 refine ⟨h2.len, h2.old, ?_, ?_, ?_⟩
 ·intro o ho
  rcases dF.1 ho with ho | ho
  ·exact h2.own o ho
  ·exact (hS.own o (gh _ ho)).ag (hkeep o ho)
 ·intro o ho B hB
  rcases dF.1 ho with ho | ho
  ·exact h2.new o ho B hB
  ·exact hS.new o (gh _ ho) B hB
 ·rw [eP]
  refine ⟨h2.sep, hsep.2.1, ?_⟩
  intro x hx y hy B hb hb'
  rcases h1.new x hx B hb with hh | ⟨z, hz, hzb⟩
  ·have := (hS.own y (gh _ hy)).lt hb'
   have hh : H.length ≤ B := hh
   omega
  ·exact hsep.2.2 z hz y hy B hzb hb'
theorem b6m (t : TypeId) (k : IntKind) (n : Int) : unV P .neg t (.int k n) = some (.int k (k.wrap (0 - n))) := rfl
theorem b1e (ops : Array Oper) (d : Option Tmp) (op : Op) (ty : TypeId) (pos : String) (af : Array Edge) (j : Nat) (b : Bool) (l : List Value) (H' : Heap) (v : Value) :
 rdW P ops (some ⟨d, op, ty, pos, af, some (j, b)⟩) (some (l, H', v)) H = tQ (yE ops j) l b (lW P ⟨d, op, ty, pos, af, some (j, b)⟩ l H fun v' _ => v' = v) True := by
 rw [← sF ops l d op ty pos af]
 unfold rdW
 split
 ·rename_i h1 h2
  cases h1; cases h2
  split
  ·rename_i h; simp [h]
  ·rename_i h; simp [h]
 ·rename_i h
  exact (h _ _ _ _ rfl rfl).elim
theorem b2L (t t2 : TypeId) (cx cy : Bool) (k : IntKind) (a b : Int) (K : Value → Prop) : kU P .and t t2 cx cy (.int k a) (.int k b) K = jU (kR P .and t t2 cx cy (.int k a) (.int k b)) K := by
 have h : (if k = k then mH .and k a b else none) = none := by split <;> rfl
 unfold kU; dsimp only
 rw [h]
theorem b4J (t t2 : TypeId) (cx cy : Bool) (k : IntKind) (a b : Int) (K : Value → Prop) : kU P .or t t2 cx cy (.int k a) (.int k b) K = jU (kR P .or t t2 cx cy (.int k a) (.int k b)) K := by
 have h : (if k = k then mH .or k a b else none) = none := by split <;> rfl
 unfold kU; dsimp only
 rw [h]
theorem b0Q (t t2 : TypeId) (cx cy : Bool) (k : IntKind) (a b : Int) (K : Value → Prop) : kU P .xor t t2 cx cy (.int k a) (.int k b) K = jU (kR P .xor t t2 cx cy (.int k a) (.int k b)) K := by
 have h : (if k = k then mH .xor k a b else none) = none := by split <;> rfl
 unfold kU; dsimp only
 rw [h]
theorem a3Y (t t2 : TypeId) (cx cy : Bool) (k : IntKind) (a b : Int) (K : Value → Prop) : kU P .andNot t t2 cx cy (.int k a) (.int k b) K = jU (kR P .andNot t t2 cx cy (.int k a) (.int k b)) K := by
 have h : (if k = k then mH .andNot k a b else none) = none := by split <;> rfl
 unfold kU; dsimp only
 rw [h]
theorem b2U (t t2 : TypeId) (cx cy : Bool) (k k' : IntKind) (a b : Int) (K : Value → Prop) : kU P .shl t t2 cx cy (.int k a) (.int k' b) K = jU (kR P .shl t t2 cx cy (.int k a) (.int k' b)) K := by
 have h : (if k = k' then mH .shl k a b else none) = none := by split <;> rfl
 unfold kU; dsimp only
 rw [h]
theorem b0T (t t2 : TypeId) (cx cy : Bool) (k k' : IntKind) (a b : Int) (K : Value → Prop) : kU P .shr t t2 cx cy (.int k a) (.int k' b) K = jU (kR P .shr t t2 cx cy (.int k a) (.int k' b)) K := by
 have h : (if k = k' then mH .shr k a b else none) = none := by split <;> rfl
 unfold kU; dsimp only
 rw [h]
theorem b0M (op : BinOp) (t t2 : TypeId) (cx cy : Bool) (a b : ByteArray) (K : Value → Prop) : kU P op t t2 cx cy (.string a) (.string b) K = jU (kR P op t t2 cx cy (.string a) (.string b)) K := rfl
theorem b1L (op : BinOp) (t t2 : TypeId) (cx cy : Bool) (a b : Array Value) (K : Value → Prop) : kU P op t t2 cx cy (.agg a) (.agg b) K = jU (kR P op t t2 cx cy (.agg a) (.agg b)) K := rfl
theorem b2S (op : BinOp) (t t2 : TypeId) (cx cy : Bool) (a b : Bool) (K : Value → Prop) : kU P op t t2 cx cy (.bool a) (.bool b) K = jU (kR P op t t2 cx cy (.bool a) (.bool b)) K := rfl
theorem b3Q (n : Int) (h1 : -9223372036854775808 ≤ n) (h2 : n < 9223372036854775808) : IntKind.wrap .i64 n = n := by
 show (if (true && decide (n % 18446744073709551616 ≥ 9223372036854775808)) = true then n % 18446744073709551616 - 18446744073709551616 else n % 18446744073709551616) = n
 simp only [gb, decide_eq_true_eq]
 omega
theorem b7G (n : Int) (h1 : -128 ≤ n) (h2 : n < 128) : IntKind.wrap .i8 n = n := by
 show (if (true && decide (n % 256 ≥ 128)) = true then n % 256 - 256 else n % 256) = n
 simp only [gb, decide_eq_true_eq]
 omega
theorem oQ (n : Int) (h1 : 0 ≤ n) (h2 : n < 18446744073709551616) : IntKind.wrap .u64 n = n := by
 show (if (false && decide (n % 18446744073709551616 ≥ 9223372036854775808)) = true then n % 18446744073709551616 - 18446744073709551616 else n % 18446744073709551616) = n
 simp only [fA]
 rw [if_neg (by simp)]
 omega
theorem b5f (n : Int) (h1 : 0 ≤ n) (h2 : n < 4294967296) : IntKind.wrap .u32 n = n := by
 show (if (false && decide (n % 4294967296 ≥ 2147483648)) = true then n % 4294967296 - 4294967296 else n % 4294967296) = n
 simp only [fA]
 rw [if_neg (by simp)]
 omega
theorem b4D (n : Int) (h1 : 0 ≤ n) (h2 : n < 65536) : IntKind.wrap .u16 n = n := by
 show (if (false && decide (n % 65536 ≥ 32768)) = true then n % 65536 - 65536 else n % 65536) = n
 simp only [fA]
 rw [if_neg (by simp)]
 omega
theorem b8n (n : Int) (h1 : 0 ≤ n) (h2 : n < 256) : IntKind.wrap .u8 n = n := by
 show (if (false && decide (n % 256 ≥ 128)) = true then n % 256 - 256 else n % 256) = n
 simp only [fA]
 rw [if_neg (by simp)]
 omega
end
end Go.Ds
namespace Go.Ds
noncomputable section
variable {P : Program}
def sT (P : Program) (t : TypeId) : List Field := match P.underlying t with | some (.struct fs) => fs.toList | _ => []
def eqC : Value → Value → Bool
 | .int _ a, .int _ b => a == b
 | .bool a, .bool b => a == b
 | .string a, .string b => decide (a = b)
 | _, _ => false
def okC (P : Program) (t : TypeId) (x y : Value) : Bool := match P.underlying t with
 | some (.int _) => (match x, y with | .int k _, .int k' _ => decide (k = k') | _, _ => false)
 | some .bool => (match x, y with | .bool _, .bool _ => true | _, _ => false)
 | some .string => (match x, y with | .string _, .string _ => true | _, _ => false)
 | _ => false
theorem eq1 {t : TypeId} {x y : Value} (d : Nat) (h : okC P t x y = true) : iK P (Op.equalIn (d + 1) t x y) = some (eqC x y) := by
 unfold okC at h
 split at h
 ·rename_i k0 hu
  split at h
  ·rename_i k a k' b
   have hk : k = k' := by simpa using h
   subst hk
   rw [Op.equalIn, iG, jT hu, cT]
   simp only [if_true]
   rfl
  ·cases h
 ·rename_i hu
  split at h
  ·rw [Op.equalIn, iG, jT hu, cT]; rfl
  ·cases h
 ·rename_i hu
  split at h
  ·rename_i a b
   rw [Op.equalIn, iG, jT hu, cT]
   show some (a == b) = some (decide (a = b))
   rw [a1C]
   congr 1
   simp [eq_comm]
  ·cases h
 ·cases h
theorem b8R {t : TypeId} {x y v : Value} {cs : Array Value} {off : Nat} (h : okC P t x y = true) (hc : cs[off]? = some v) : iK P (part t cs off) = some v := by
 have ha : iK P (isAgg t) = some false := by
  unfold isAgg
  unfold okC at h
  split at h
  ·rename_i hu; rw [iG, jT hu, cT]; rfl
  ·rename_i hu; rw [iG, jT hu, cT]; rfl
  ·rename_i hu; rw [iG, jT hu, cT]; rfl
  ·cases h
 unfold part
 rw [iG, ha, cT]
 simp only [dL, if_false, hc]
 rfl
theorem xN {t : TypeId} {xs ys : List Value} (d : Nat) (hu : P.underlying t = some (.struct (sT P t).toArray)) (hst : P.stoodInHeld t = false)
 (hf : ((sT P t).map fun f => (f.name != "_", f.offset)) = (List.range xs.length).map fun j => (true, j)) (hy : ys.length = xs.length)
 (hok : ((sT P t).all fun f => okC P f.type (xs.getD f.offset undef) (ys.getD f.offset undef)) = true) :
 iK P (Op.equalIn (d + 2) t (.agg xs.toArray) (.agg ys.toArray)) = some ((List.range xs.length).all fun j => eqC (xs.getD j undef) (ys.getD j undef)) := by
 rw [di] at hok
 have hmem : ∀ f ∈ sT P t, (f.name != "_") = true ∧ f.offset < xs.length := fun f hf' => by
  have : (f.name != "_", f.offset) ∈ (List.range xs.length).map fun j => (true, j) := by rw [← hf]; exact fE hf'
  obtain ⟨j, hj, he⟩ := dr.1 this
  simp only [ga] at he
  exact ⟨he.1.symm, by rw [← he.2]; exact dp.1 hj⟩
 rw [a6f hu hst (fun f => eqC (xs.getD f.offset undef) (ys.getD f.offset undef)) ?_]
 ·congr 1
  have h1 : (sT P t).all (fun f => eqC (xs.getD f.offset undef) (ys.getD f.offset undef)) = ((sT P t).map fun f => (f.name != "_", f.offset)).all fun p => eqC (xs.getD p.2 undef) (ys.getD p.2 undef) := by
   rw [List.all_map]; rfl
  rw [h1, hf, List.all_map]
  rfl
 ·intro f hf'
  obtain ⟨h1, h2⟩ := hmem f hf'
  refine ⟨by simpa using h1, ?_⟩
  have hx : xs.toArray[f.offset]? = some (xs.getD f.offset undef) := by
   rw [eU, cX, de h2]; rfl
  have hy' : ys.toArray[f.offset]? = some (ys.getD f.offset undef) := by
   rw [eU, cX, de (by omega)]; rfl
  rw [iG, b8R (hok f hf') hx, cT, iG, b8R (hok f hf') hy', cT]
  exact eq1 d (hok f hf')
theorem xD {t t2 : TypeId} {cx cy : Bool} {xs ys : List Value} (hu : P.underlying t = some (.struct (sT P t).toArray)) (hst : P.stoodInHeld t = false) (hg : P.eqGuardType P.depth t = false)
 (hf : ((sT P t).map fun f => (f.name != "_", f.offset)) = (List.range xs.length).map fun j => (true, j)) (hy : ys.length = xs.length)
 (hok : ((sT P t).all fun f => okC P f.type (xs.getD f.offset undef) (ys.getD f.offset undef)) = true) (hx : xs.all iX = true) (hys : ys.all iX = true) :
 kR P .eql t t2 cx cy (.agg xs.toArray) (.agg ys.toArray) = some (.bool ((List.range xs.length).all fun j => eqC (xs.getD j undef) (ys.getD j undef))) ∧
 kR P .neq t t2 cx cy (.agg xs.toArray) (.agg ys.toArray) = some (.bool (!((List.range xs.length).all fun j => eqC (xs.getD j undef) (ys.getD j undef)))) :=
 ⟨b5U _ hg hx hys (xN 9998 hu hst hf hy hok), a6l _ hg hx hys (xN 9998 hu hst hf hy hok)⟩
theorem c0k {t : TypeId} {k : IntKind} (hu : P.underlying t = some (.struct (sT P t).toArray)) (hst : P.stoodInHeld t = false)
 (hf : ((sT P t).map fun f => (f.name != "_", f.offset)) = (List.range 2).map fun j => (true, j))
 (hok : ∀ a b c d : Int, ((sT P t).all fun f => okC P f.type ([Value.int k a, .int k b].getD f.offset undef) ([Value.int k c, .int k d].getD f.offset undef)) = true) (a b : Int × Int) :
 iK P (Op.equal t (.agg #[.int k a.1, .int k a.2]) (.agg #[.int k b.1, .int k b.2])) = some (decide (b = a)) := by
 have hmd : Op.maxDepth = 9998 + 2 := by decide
 unfold Op.equal
 rw [hmd, xN (xs := [.int k a.1, .int k a.2]) (ys := [.int k b.1, .int k b.2]) 9998 hu hst hf rfl (hok _ _ _ _)]
 congr 1
 show ((a.1 == b.1) && ((a.2 == b.2) && true)) = _
 rw [dR]
 simp only [fi, cU, beq_iff_eq, decide_eq_true_eq, Prod.ext_iff]
 constructor
 ·rintro ⟨h1, h2⟩; exact ⟨h1.symm, h2.symm⟩
 ·rintro ⟨h1, h2⟩; exact ⟨h1.symm, h2.symm⟩
theorem b9z {k : IntKind} (a : Int × Int) : Instr.sameBits 10000 (.agg #[.int k a.1, .int k a.2]) (.agg #[.int k a.1, .int k a.2]) = true := by
 show ((2 : Nat) == 2 && ([(Value.int k a.1, Value.int k a.1), (Value.int k a.2, Value.int k a.2)]).all fun (x, y) => Instr.sameBits 9999 x y) = true
 have h : ∀ n, Instr.sameBits 9999 (.int k n) (.int k n) = true := fun n => by
  show (k == k && n == n) = true
  cases k <;> simp <;> rfl
 simp [h]
section
variable {H : Heap} {α : Type} {n : Nat} {cel : α → List Value} {v : Value} {xs : List α}
theorem Sl.aO (h : Sl n cel H v xs) (o : Oper) (l : List Value) (H' : Heap) (k : IntKind) (a : Int) (K : Value → Heap → Prop) (h0 : 0 < xs.length) (h1 : 0 ≤ a) (h2 : a ≤ xs.length) :
 oK P o l H' (some n) v none (some (.int k a)) K = oA (qB v n 0 a.toNat) fun v => K v H' := by
 obtain ⟨m, rfl⟩ : ∃ m, n = m + 1 := ⟨n - 1, by have := h.pos; omega⟩
 exact h.rd.aO (iS h.hc xs) o l H' k a K h0 h1 h2
theorem Sl.aN (h : Sl n cel H v xs) (o : Oper) (l : List Value) (H' : Heap) (k : IntKind) (a : Int) (K : Value → Heap → Prop) (h0 : 0 < xs.length) (h1 : 0 ≤ a) (h2 : a ≤ xs.length) :
 oK P o l H' (some n) v (some (.int k a)) none K = oA (qB v n a.toNat (xs.length - a).toNat) fun v => K v H' := by
 obtain ⟨m, rfl⟩ : ∃ m, n = m + 1 := ⟨n - 1, by have := h.pos; omega⟩
 rw [h.rd.aN (iS h.hc xs) o l H' k a K h0 h1 h2]
 congr 2
 omega
theorem Sl.sub (h : Sl n cel H v xs) (lo k : Nat) (hk : lo + k ≤ xs.length) (h0 : 0 < xs.length) : Sl n cel H (qB v n lo k) ((xs.drop lo).take k) := by
 refine ⟨?_, h.hc, h.pos⟩
 have hne : xs.flatMap cel ≠ [] := fun e => by
  have := iS h.hc xs
  rw [e, eY] at this
  have hp := ic h0 h.pos
  omega
 have := h.rd.sub lo k (by rw [iS h.hc, ← fb]; exact dB _ hk) hne
 rw [rR h.hc, a1w h.hc] at this
 exact this
theorem Sl.cz (h : Sl n cel H v xs) (k : Nat) (hk : k ≤ xs.length) (h0 : 0 < xs.length) : Sl n cel H (qB v n 0 k) (xs.take k) := by
 simpa using h.sub 0 k (by omega) h0
theorem Sl.cA (h : Sl n cel H v xs) (lo : Nat) (hk : lo ≤ xs.length) (h0 : 0 < xs.length) : Sl n cel H (qB v n lo (xs.length - lo)) (xs.drop lo) := by
 have := h.sub lo (xs.length - lo) (by omega) h0
 rwa [List.take_of_length_le (by simp)] at this
end
def a8F (P : Program) (ts : Array TypeId) (ty : TypeId) (cx cy : Bool) (x y : Value) : Option Value := (kH P ⟨none, .call { callee := .builtin .max, args := #[nZ cx 0 x, nZ cy 1 y], argTypes := ts }, ty, "", #[], none⟩ [x, y] .nil).map (·.1)
theorem b7p (d : Option Tmp) (ty : TypeId) (pos : String) (af : Array Edge) (g : Option (Nat × Bool)) (ts : Array TypeId) (x y : Operand) (l : List Value) (H : Heap) (K : Value → Heap → Prop) :
 lW P ⟨d, .call { callee := .builtin .max, args := #[x, y], argTypes := ts }, ty, pos, af, g⟩ l H K = jG x l fun x' => jG y l fun y' => jU (a8F P ts ty (lA x) (lA y) x' y') fun v => K v H := by
 have h : opD P ⟨d, .call { callee := .builtin .max, args := #[x, y], argTypes := ts }, ty, pos, af, g⟩ l H = (a8F P ts ty (lA x) (lA y) (ev l x) (ev l y)).map fun v => (v, H) :=
  mS (P := P) ⟨d, .call { callee := .builtin .max, args := #[x, y], argTypes := ts }, ty, pos, af, g⟩ ⟨none, .call { callee := .builtin .max, args := #[nZ (lA x) 0 (ev l x), nZ (lA y) 1 (ev l y)], argTypes := ts }, ty, "", #[], none⟩ l [ev l x, ev l y] H
   (by cases x <;> cases y <;> rfl) (by cases x <;> cases y <;> kernel_rfl)
 have h2 : jY ((a8F P ts ty (lA x) (lA y) (ev l x) (ev l y)).map fun v => (v, H)) K = jU (a8F P ts ty (lA x) (lA y) (ev l x) (ev l y)) fun v => K v H := by cases a8F P ts ty (lA x) (lA y) (ev l x) (ev l y) <;> rfl
 simp only [lW, h, jG, Op.operands, Call.operands, h2]
 simp [and_assoc]
theorem b2Y (ts : Array TypeId) (ty : TypeId) (cx cy : Bool) (a b : Int) : a8F P ts ty cx cy (.int .i64 a) (.int .i64 b) = some (.int .i64 (max a b)) := by
 have h : a8F P ts ty cx cy (.int .i64 a) (.int .i64 b) = some (.int .i64 (if b > a then b else a)) := by cases cx <;> cases cy <;> kernel_rfl
 rw [h]
 congr 2
 split <;> omega
def a7z (P : Program) (ts : Array TypeId) (ty : TypeId) (cx cy : Bool) (x y : Value) : Option Value := (kH P ⟨none, .call { callee := .builtin .min, args := #[nZ cx 0 x, nZ cy 1 y], argTypes := ts }, ty, "", #[], none⟩ [x, y] .nil).map (·.1)
theorem b7T (d : Option Tmp) (ty : TypeId) (pos : String) (af : Array Edge) (g : Option (Nat × Bool)) (ts : Array TypeId) (x y : Operand) (l : List Value) (H : Heap) (K : Value → Heap → Prop) :
 lW P ⟨d, .call { callee := .builtin .min, args := #[x, y], argTypes := ts }, ty, pos, af, g⟩ l H K = jG x l fun x' => jG y l fun y' => jU (a7z P ts ty (lA x) (lA y) x' y') fun v => K v H := by
 have h : opD P ⟨d, .call { callee := .builtin .min, args := #[x, y], argTypes := ts }, ty, pos, af, g⟩ l H = (a7z P ts ty (lA x) (lA y) (ev l x) (ev l y)).map fun v => (v, H) :=
  mS (P := P) ⟨d, .call { callee := .builtin .min, args := #[x, y], argTypes := ts }, ty, pos, af, g⟩ ⟨none, .call { callee := .builtin .min, args := #[nZ (lA x) 0 (ev l x), nZ (lA y) 1 (ev l y)], argTypes := ts }, ty, "", #[], none⟩ l [ev l x, ev l y] H
   (by cases x <;> cases y <;> rfl) (by cases x <;> cases y <;> kernel_rfl)
 have h2 : jY ((a7z P ts ty (lA x) (lA y) (ev l x) (ev l y)).map fun v => (v, H)) K = jU (a7z P ts ty (lA x) (lA y) (ev l x) (ev l y)) fun v => K v H := by cases a7z P ts ty (lA x) (lA y) (ev l x) (ev l y) <;> rfl
 simp only [lW, h, jG, Op.operands, Call.operands, h2]
 simp [and_assoc]
theorem b5B (ts : Array TypeId) (ty : TypeId) (cx cy : Bool) (a b : Int) : a7z P ts ty cx cy (.int .i64 a) (.int .i64 b) = some (.int .i64 (min a b)) := by
 have h : a7z P ts ty cx cy (.int .i64 a) (.int .i64 b) = some (.int .i64 (if b < a then b else a)) := by cases cx <;> cases cy <;> kernel_rfl
 rw [h]
 congr 2
 split <;> omega
section
variable {H : Heap}
def Var (H : Heap) (A n : Nat) (cs : List Value) : Prop := n = cs.length ∧ ∃ ty rw lo ver, iP H A = some (.cells cs ty rw lo ver) ∧ lo ≤ cs.length
theorem Var.ag {H' : Heap} {A n : Nat} {cs : List Value} (h : Var H A n cs) (hk : ∀ B, B < H.length → iP H' B = iP H B) : Var H' A n cs := by
 obtain ⟨h1, ty, rw, lo, ver, h2, h3⟩ := h
 exact ⟨h1, ty, rw, lo, ver, by rw [hk A (jH h2), h2], h3⟩
theorem Var.ld {A n : Nat} {cs : List Value} (h : Var H A n cs) (s : Option Nat) (off : Nat) : oZ (some false) s H (ptr A off n) = cs[off]? := by
 obtain ⟨rfl, ty, rw, lo, ver, h1, h2⟩ := h
 simp only [oZ, jB, h1]
 by_cases h : off < cs.length
 ·rw [if_pos (by simp; omega)]
  simp only [cT]
  rw [dJ (by omega), dq]
  simp
 ·rw [if_neg (by simp; omega), dQ (by omega)]
  rfl
theorem Var.aj {A n : Nat} {cs : List Value} (h : Var H A n cs) (m off : Nat) : oZ (some true) (some m) H (ptr A off n) = if off + m ≤ cs.length then some (.agg ((cs.drop off).take m).toArray) else none := by
 obtain ⟨rfl, ty, rw, lo, ver, h1, h2⟩ := h
 simp only [oZ, jB, h1, cT]
 by_cases h : off + m ≤ cs.length
 ·rw [if_pos (by simp; omega), if_pos h]
  rfl
 ·rw [if_neg (by simp; omega), if_neg h]
  rfl
theorem St.var {P : Program} {H0 : Base} {os : List Ob} (hS : St P H0 H os) (i : Nat) {A n : Nat} {cs : List Value} (ho : os[i]? = some ⟨ptr A 0 n, 0, cs⟩) : Var H A n cs := by
 obtain ⟨h1, ty, lo, ver, h2, h3⟩ := hS.cell i ho
 exact ⟨h1, ty, true, lo, ver, h2, h3⟩
theorem St.va {H0 : Heap} {os : List Ob} (hS : St P H0 H os) {A n : Nat} {cs : List Value} (h : Var H0 A n cs) : Var H A n cs := h.ag hS.ag
end
theorem rT {P : Program} (t t2 : TypeId) (cx cy : Bool) (u x : UInt8) : kR P .add t t2 cx cy (.string ⟨#[u]⟩) (.string ⟨#[x]⟩) = some (.string ⟨#[u, x]⟩) := by
 rw [a6a _ _ _ _ _ _ (by show 1 + 1 < 9223372036854775808; decide)]
 rfl
theorem uJ {P : Program} {H : Heap} {s t : TypeId} {v : Value} {n : Int} (h : RdAt H v 1 [.int .u8 n]) (hs : kY P s = true) (ht : nI P t = true) (hbt : kY P t = false) (h0 : 0 ≤ n) (h1 : n < 256) (K : Value → Heap → Prop) :
 sK P s t H v K = K (.string ⟨#[UInt8.ofNat n.toNat]⟩) H := by
 obtain ⟨m, rfl⟩ : ∃ m : Nat, n = Int.ofNat m := ⟨n.toNat, by simp [fp h0]⟩
 have hm : m < 256 := by have : (m : Int) < 256 := h1; omega
 rcases h with ⟨_, h⟩ | ⟨A, i, e, row, ty, rw, lo, ver, k, g1, g2, g3, g4, g5, g6, rfl⟩
 ·cases h
 have hk : k = 1 := by simp at g6; omega
 subst hk
 have hc : jB H A i e 1 = some [.int .u8 (Int.ofNat m)] := by
  simp only [jB, g1]
  rw [if_pos (by simp at g4 ⊢; omega)]
  exact congrArg some g5
 have hb : mY [.int .u8 (Int.ofNat m)] = some ⟨#[UInt8.ofNat m]⟩ := by simp [mY, a1f, a0G, hm]
 have hd : opD P ⟨none, .convert s t (.const (.slice (some ⟨A, i, some e⟩) 1 1)), t, "", #[], none⟩ [] H = some (.string ⟨#[UInt8.ofNat m]⟩, H) := by
  have hf : flat (.slice (some ⟨A, i, some e⟩) 1 1) = false := rfl
  simp only [opD, ev, hf, hs, ht, hc, hb, fA, dL, if_false, Bool.and_self, if_true, cT, dE]
 unfold sK
 rw [hd]
 apply propext
 constructor
 ·rintro ⟨v, H1, h2, h3⟩
  injection (cS h2) with e1 e2
  subst e1 e2
  exact h3
 ·intro h3
  exact ⟨_, _, rfl, h3⟩
theorem a4z {P : Program} {t : TypeId} {n : Nat} {elem : TypeId} {size : Nat} (ha : P.underlying t = some (.array n elem)) (hs : iD P elem = some size) (A i e : Nat) (k : IntKind) (j : Int) (h0 : 0 ≤ j) (h1 : j < n) :
 vN (iR P t) P t (ptr A i e) (.int k j) = some (ptr A (i + j.toNat * size) e) := by
 have hn : iR P t = none := by simp [iR, iJ, ha]
 rw [hn]
 simp only [vN, a1R, ha, ptr, hs, cT]
 rw [if_pos (by simp [h0, h1])]
end
end Go.Ds
namespace Go.Ds
section
variable {P : Program}
def c0F (inv : List Nat) (e : Edge) : Edge := { e with on := inv.getD e.on 0 }
def wU (inv : List Nat) (o : Oper) : Oper := { o with after := o.after.map (c0F inv), guard := o.guard.map fun g => (inv.getD g.1 0, g.2) }
def kB (π inv : List Nat) (ops : Array Oper) : Array Oper := (π.map fun i => wU inv (ops.getD i default)).toArray
def a8K (π inv : List Nat) (ops : Array Oper) : Bool :=
 decide (π.length = ops.size) && decide (inv.length = ops.size) && (List.range ops.size).all (fun i => decide (π.getD i 0 < ops.size) && decide (inv.getD i 0 < ops.size) && decide (inv.getD (π.getD i 0) 0 = i) && decide (π.getD (inv.getD i 0) 0 = i)) &&
 ops.toList.all fun o => o.after.toList.all (fun e => decide (e.on < ops.size)) && (match o.guard with | some g => decide (g.1 < ops.size) | none => true)
structure Perm (π inv : List Nat) (ops : Array Oper) : Prop where
 len : π.length = ops.size
 pi : ∀ i, i < ops.size → π.getD i 0 < ops.size
 iv : ∀ i, i < ops.size → inv.getD i 0 < ops.size
 ip : ∀ i, i < ops.size → inv.getD (π.getD i 0) 0 = i
 pv : ∀ i, i < ops.size → π.getD (inv.getD i 0) 0 = i
 edge : ∀ (i : Nat) (o : Oper), ops[i]? = some o → ∀ e ∈ o.after, e.on < ops.size
 guard : ∀ (i : Nat) (o : Oper) (g : Nat × Bool), ops[i]? = some o → o.guard = some g → g.1 < ops.size
theorem b7E {π inv : List Nat} {ops : Array Oper} (h : a8K π inv ops = true) : Perm π inv ops := by
 unfold a8K at h
 simp only [cU, decide_eq_true_eq, di, dp] at h
 obtain ⟨⟨⟨h1, h2⟩, h3⟩, h4⟩ := h
 refine ⟨h1, fun i hi => (h3 i hi).1.1.1, fun i hi => (h3 i hi).1.1.2, fun i hi => (h3 i hi).1.2, fun i hi => (h3 i hi).2, fun i o ho e he => ?_, fun i o g ho hg => ?_⟩
 ·exact (h4 o (dG (i := i) (by simpa using ho))).1 e (by simpa using he)
 ·have := (h4 o (dG (i := i) (by simpa using ho))).2
  rw [hg] at this
  simpa using this
variable {π inv : List Nat} {ops : Array Oper}
theorem a6j (p : Nat) : (kB π inv ops)[p]? = (π[p]?).map fun i => wU inv (ops.getD i default) := by
 simp [kB]
theorem pW (D : Perm π inv ops) {p i : Nat} {o : Oper} (hp : p < ops.size) (hi : π.getD p 0 = i) (ho : ops[i]? = some o) : (kB π inv ops)[p]? = some (wU inv o) := by
 rw [a6j]
 have h1 : π[p]? = some i := by
  rw [cX] at hi
  rw [de (by rw [D.len]; exact hp)] at hi ⊢
  simpa using hi
 rw [h1]
 simp only [dE]
 rw [dP, ho]
 rfl
theorem pF (D : Perm π inv ops) : (kB π inv ops).size = ops.size := by simp [kB, D.len]
theorem a4x (D : Perm π inv ops) (tmps : Array Value) {j : Nat} (hj : j < ops.size) : yielded (kB π inv ops) tmps (inv.getD j 0) = yielded ops tmps j := by
 have ho : ops[j]? = some ops[j] := cZ.2 ⟨hj, rfl⟩
 unfold yielded
 rw [pW D (D.iv j hj) (D.pv j hj) ho, ho]
 rfl
theorem a6U (D : Perm π inv ops) (tmps : Array Value) {i : Nat} {o : Oper} (ho : ops[i]? = some o) : Region.wanted (wU inv o) (yielded (kB π inv ops) tmps) = Region.wanted o (yielded ops tmps) := by
 unfold Region.wanted
 have e : (wU inv o).guard = o.guard.map fun g => (inv.getD g.1 0, g.2) := rfl
 rw [e]
 cases hg : o.guard with
 | none => rfl
 | some g =>
   simp only [dE]
   rw [a4x D tmps (D.guard i o g ho hg)]
theorem b7X (ro : Option Nat) (ρ : Operand → Value) (o : Oper) : (wU inv o).semAt ro ρ = o.semAt ro ρ := by
 obtain ⟨dst, op, type, pos, after, guard⟩ := o
 rfl
theorem b0W (w : World) (ρ : Operand → Value) (o : Oper) : (wU inv o).about P w ρ = o.about P w ρ := by
 obtain ⟨dst, op, type, pos, after, guard⟩ := o
 rfl
theorem b3a (F : Fence) (n : Nat) (o : Oper) (a : Act) (next : Act → World → Prop) (Q : Exit → Act → World → Prop) (r : Result Next) : (wU inv o).uponIn F n P a next Q r = o.uponIn F n P a next Q r := by
 obtain ⟨dst, op, type, pos, after, guard⟩ := o
 cases r with
 | ok x w => cases x <;> rfl
 | halt x w => cases x <;> rfl
theorem b0L (D : Perm π inv ops) (F : Fence) (n : Nat) (Q : Exit → Act → World → Prop) {i : Nat} (hi : i < ops.size) (K : Act → World → Prop) (a : Act) (w : World) :
 wpOpIn F n P (kB π inv ops) Q (inv.getD i 0) K a w = wpOpIn F n P ops Q i K a w := by
 have ho : ops[i]? = some ops[i] := cZ.2 ⟨hi, rfl⟩
 unfold wpOpIn
 rw [pW D (D.iv i hi) (D.pv i hi) ho, ho]
 simp only [a6U D a.tmps ho, Oper.wpIn, b0W, b3a, b7X]
 rfl
def b9L (inv : List Nat) (n : Nat) (listed listed' : Array Bool) : Prop := listed.size = n ∧ listed'.size = n ∧ ∀ i, i < n → listed.getD i false = listed'.getD (inv.getD i 0) false
theorem vV (D : Perm π inv ops) {listed listed' : Array Bool} (hc : b9L inv ops.size listed listed') {i : Nat} (hi : i < ops.size) :
 i ∈ Region.ready .any ops listed ↔ inv.getD i 0 ∈ Region.ready .any (kB π inv ops) listed' := by
 have ho : ops[i]? = some ops[i] := cZ.2 ⟨hi, rfl⟩
 have ho' := pW D (D.iv i hi) (D.pv i hi) ho
 have hsz := pF D
 obtain ⟨c1, c2, c3⟩ := hc
 constructor
 ·intro h
  obtain ⟨o, h1, h2, h3⟩ := oJ c1 h
  rw [ho] at h1
  obtain rfl := cS h1
  refine yQ (by rw [hsz]; exact c2) ho' (by rw [← c3 i hi]; exact h2) ?_
  intro e he hb
  have he' : e ∈ (ops[i]).after.map (c0F inv) := he
  obtain ⟨e0, he0, rfl⟩ := Array.mem_map.1 he'
  have := h3 e0 he0 hb
  show listed'.getD (inv.getD e0.on 0) false = true
  rw [← c3 _ (D.edge i _ ho e0 he0)]
  exact this
 ·intro h
  obtain ⟨o, h1, h2, h3⟩ := oJ (by rw [hsz]; exact c2) h
  rw [ho'] at h1
  obtain rfl := cS h1
  refine yQ c1 ho (by rw [c3 i hi]; exact h2) ?_
  intro e he hb
  have := h3 (c0F inv e) (Array.mem_map.2 ⟨e, he, rfl⟩) hb
  rw [c3 _ (D.edge i _ ho e he)]
  exact this
theorem b6a (D : Perm π inv ops) (F : Fence) (k : Nat) {Q : Exit → Act → World → Prop} : ∀ (fuel : Nat) (listed listed' : Array Bool) (a : Act) (w : World), b9L inv ops.size listed listed' →
 wpAnyIn F k P .any (kB π inv ops) Q fuel listed' a w → wpAnyIn F k P .any ops Q fuel listed a w := by
 have hsz := pF D
 have nil1 : ∀ {listed listed' : Array Bool}, b9L inv ops.size listed listed' → (Region.ready .any ops listed = [] ↔ Region.ready .any (kB π inv ops) listed' = []) := by
  intro listed listed' hc
  constructor
  ·intro h
   cases hr : Region.ready .any (kB π inv ops) listed' with
   | nil => rfl
   | cons p r =>
     exfalso
     have hp : p ∈ Region.ready .any (kB π inv ops) listed' := by rw [hr]; exact dI ..
     obtain ⟨o, h1, _, _⟩ := oJ (by rw [hsz]; exact hc.2.1) hp
     have hpn : p < ops.size := by rw [← hsz]; exact (cZ.1 h1).1
     have := (vV D hc (D.pi p hpn)).2 (by rw [D.ip p hpn]; exact hp)
     rw [h] at this
     cases this
  ·intro h
   cases hr : Region.ready .any ops listed with
   | nil => rfl
   | cons i r =>
     exfalso
     have hi : i ∈ Region.ready .any ops listed := by rw [hr]; exact dI ..
     obtain ⟨o, h1, _, _⟩ := oJ hc.1 hi
     have := (vV D hc (cZ.1 h1).1).1 hi
     rw [h] at this
     cases this
 intro fuel
 induction fuel with
 | zero =>
   intro listed listed' a w hc h
   exact ⟨(nil1 hc).2 h.1, h.2⟩
 | succ fuel ih =>
   intro listed listed' a w hc h
   refine ⟨fun hn => h.1 ((nil1 hc).1 hn), fun i hi => ?_⟩
   obtain ⟨o, h1, _, _⟩ := oJ hc.1 hi
   have hin := (cZ.1 h1).1
   have h2 := h.2 _ ((vV D hc hin).1 hi)
   rw [b0L D F k Q hin] at h2
   refine wpOpIn_mono (fun a' w' h3 => ih _ _ a' w' ⟨by simpa using hc.1, by simpa using hc.2.1, fun j hj => ?_⟩ h3) h2
   have e1 := sE (listed := listed) (i := i) (by rw [hc.1]; exact hin) j
   have e2 := sE (listed := listed') (i := inv.getD i 0) (by rw [hc.2.1]; exact D.iv i hin) (inv.getD j 0)
   have e3 : (inv.getD j 0 = inv.getD i 0) ↔ j = i := ⟨fun h => by rw [← D.pv j hj, h, D.pv i hin], fun h => by rw [h]⟩
   rw [dR, e1, e2, e3, hc.2.2 j hj]
end
section
variable {P : Program} {H : Heap} {π inv : List Nat} {ops : Array Oper}
theorem Sim.cB (kE : P.follows .mixedOrders = true) {id : Nat} (Dp : Perm π inv ops) {fl : Fl} (D : Draw P fl (kB π inv ops)) {T : Nat → List Value × Heap} {val : Nat → Value} (X : Text P (kB π inv ops) T val)
 (hread : ∀ i m o, (i, m) ∈ mF fl (kB π inv ops) → (kB π inv ops)[i]? = some o → Region.wanted o (iT (kB π inv ops) (T i).1) = true → ∃ H2, opD P o (T i).1 (T m).2 = some (val i, H2)) :
 Sim P (.region id ops true) (T 0).1 (T 0).2 .normal (T ops.size).1 (T ops.size).2 := by
 intro ro k B ρ w a hr hE hl hM hB
 have hsz := pF Dp
 have := a2Z D X hread ro k B hr hE hM
 rw [hsz] at this
 exact wpIn_region_any kE (b6a Dp (fe ro) k ops.size _ _ a _ ⟨by simp, by simp, fun i hi => by
  have := Dp.iv i hi
  simp only [dP, Array.getElem?_replicate, hi, this, if_true]⟩ this)
theorem a2B (D : Perm π inv ops) (l : List Value) {j : Nat} (hj : j < ops.size) : iT (kB π inv ops) l (inv.getD j 0) = iT ops l j := by
 have ho : ops[j]? = some ops[j] := cZ.2 ⟨hj, rfl⟩
 unfold iT
 rw [pW D (D.iv j hj) (D.pv j hj) ho, ho]
 rfl
theorem yH (D : Perm π inv ops) (l : List Value) {i : Nat} {o : Oper} (ho : ops[i]? = some o) : Region.wanted (wU inv o) (iT (kB π inv ops) l) = Region.wanted o (iT ops l) := by
 unfold Region.wanted
 have e : (wU inv o).guard = o.guard.map fun g => (inv.getD g.1 0, g.2) := rfl
 rw [e]
 cases hg : o.guard with
 | none => rfl
 | some g =>
   simp only [dE]
   rw [a2B D l (D.guard i o g ho hg)]
theorem a9X (o : Oper) (l : List Value) (K : Value → Heap → Prop) : lW P (wU inv o) l H K = lW P o l H K := by
 obtain ⟨dst, op, type, pos, after, guard⟩ := o
 rfl
theorem a2R (D : Perm π inv ops) : ∀ (os : List Oper) (tr : List (List Value × Heap × Value)) (l : List Value) (H : Heap) (K : List (List Value × Heap × Value) → List Value → Heap → Prop), (∀ o ∈ os, ∃ i : Nat, ops[i]? = some o) →
 mG P (kB π inv ops) (os.map (wU inv)) tr l H K = mG P ops os tr l H K
 | [], _, _, _, _, _ => rfl
 | o :: os, tr, l, H, K, h => by
   obtain ⟨i, ho⟩ := h o (by simp)
   have ih := fun tr l H => a2R D os tr l H K fun o ho => h o (by simp [ho])
   rw [dV, mG, mG, yH D l ho]
   have e : (wU inv o).dst = o.dst := rfl
   simp only [a9X, e, ih]
def c0y (o : Option Oper) (os : List Oper) : List Oper := match o with | some o => o :: os | none => os
def sel (os : List Oper) : List Nat → List Oper
 | [] => []
 | i :: π => c0y os[i]? (sel os π)
theorem b8e (os : List Oper) : sel os [] = [] := rfl
theorem a5F (os : List Oper) (i : Nat) (π : List Nat) : sel os (i :: π) = c0y os[i]? (sel os π) := rfl
theorem a2Q (o : Oper) (os : List Oper) : c0y (some o) os = o :: os := rfl
theorem a8s (os : List Oper) : ∀ (π : List Nat), (∀ i ∈ π, i < os.length) → sel os π = π.map fun i => os.toArray.getD i default
 | [], _ => rfl
 | i :: π, h => by
   have hi := h i (by simp)
   rw [a5F, a8s os π fun j hj => h j (by simp [hj]), de hi, a2Q, dV]
   congr 1
   simp [dP, hi]
def yT (P : Program) (os : List Oper) (tr : List (List Value × Heap × Value)) (H1 : Heap) (π : List Nat) : List (Nat × Nat) → Prop
 | [] => True
 | (p, m) :: r => rdW P os.toArray (os[π.getD p 0]?) tr[p]? (trH tr[m]? H1) ∧ yT P os tr H1 π r
theorem a8a (os : List Oper) (tr) (H1 : Heap) (π : List Nat) : yT P os tr H1 π [] = True := rfl
theorem a5N (os : List Oper) (tr) (H1 : Heap) (π : List Nat) (p m : Nat) (r : List (Nat × Nat)) : yT P os tr H1 π ((p, m) :: r) = (rdW P os.toArray (os[π.getD p 0]?) tr[p]? (trH tr[m]? H1) ∧ yT P os tr H1 π r) := rfl
theorem a1Y {os : List Oper} {tr} {H1 : Heap} {π : List Nat} : ∀ {tab : List (Nat × Nat)}, yT P os tr H1 π tab → ∀ x ∈ tab, rdW P os.toArray (os[π.getD x.1 0]?) tr[x.1]? (trH tr[x.2]? H1)
 | [], _, x, hx => by cases hx
 | (i, m) :: r, h, x, hx => by
   rcases dO.1 hx with rfl | hx
   ·exact h.1
   ·exact a1Y h.2 x hx
theorem Wp.cd (kE : P.follows .mixedOrders = true) {id : Nat} {os : List Oper} {l : List Value} {Q : nF} (π inv : List Nat) (fl : Fl) (tab : List (Nat × Nat)) (hp : a8K π inv os.toArray = true)
 (htab : a2c P fl (kB π inv os.toArray) = some tab) (hn : tT (kB π inv os.toArray) tab = true)
 (h : mG P os.toArray (sel os π) [] l H fun tr l1 H1 => Q .normal l1 H1 ∧ yT P os tr H1 π tab) : Wp P (.region id os.toArray true) l H Q := by
 have Dp := b7E hp
 obtain ⟨D, htb⟩ := a2D htab
 have hsz := pF Dp
 have hmem : ∀ i ∈ π, i < os.length := fun i hi => by
  obtain ⟨p, hpl, hpe⟩ := dH.1 hi
  have := Dp.pi p (by rw [← Dp.len]; exact hpl)
  rw [cX, de hpl, eR, hpe] at this
  simpa using this
 have hsel : (sel os π).map (wU inv) = (kB π inv os.toArray).toList := by
  rw [a8s os π hmem]
  simp [kB]
 rw [← a2R Dp (sel os π) [] l H _ (fun o ho => by
  rw [a8s os π hmem, dr] at ho
  obtain ⟨i, hi, rfl⟩ := ho
  have := hmem i hi
  exact ⟨i, by simp [dP, this]⟩), hsel] at h
 obtain ⟨T, val, l', H', ext, h0, h1, h2, h3, h4, h5, h6⟩ := sX (kB π inv os.toArray).toList 0 rfl [] l H h
 have hlen : (kB π inv os.toArray).toList.length = os.toArray.size := by rw [fo, hsz]
 rw [hlen] at h1 h2 h3 h4
 have := Sim.cB kE (id := id) Dp D (T := T) (val := val) ⟨fun k hk => by rw [hsz] at hk; simpa using h4 k hk⟩ fun i m o hm ho hw => by
  rw [← htb] at hm
  have hr := a1Y h6 (i, m) hm
  have hi : i < os.toArray.size := by rw [← hsz]; exact (cZ.1 ho).1
  have hpi := Dp.pi i hi
  have hoo : os.toArray[π.getD i 0]? = some (os.toArray[π.getD i 0]) := cZ.2 ⟨hpi, rfl⟩
  have hat := pW (inv := inv) Dp hi rfl hoo
  rw [ho] at hat
  have hat := cS hat
  have hoo' : os[π.getD i 0]? = some (os.toArray[π.getD i 0]) := by rw [← hoo]; simp
  simp only [eX] at hr
  rw [hoo', h3 i hi] at hr
  unfold rdW at hr
  rw [hat, yH Dp _ hoo] at hw
  have hr := hr hw
  have hno : xQ o = true := by
   unfold tT at hn
   have := di.1 hn (i, m) hm
   simpa [ho] using this
  have hTm : trH ext[m]? H' = (T m).2 ∨ os.toArray.size < m := by
   unfold trH
   by_cases hm2 : m < os.toArray.size
   ·left; rw [h3 m hm2]
   ·by_cases hm3 : m = os.toArray.size
    ·left
     rw [dQ (by omega), hm3, h1]
    ·right; omega
  rcases hTm with hTm | hTm
  ·rw [hTm, ← a9X (inv := inv), ← hat] at hr
   obtain ⟨v, H2, h7, h8⟩ := b0C hno hr
   exact ⟨H2, by rw [h7, h8]⟩
  ·exfalso
   rw [htb] at hm
   have := a1S hm
   rw [hsz] at this
   omega
 rw [h0, h1] at this
 exact ⟨_, _, _, this, h5⟩
end
def RA :=
 And.intro @b7Y <| And.intro @b5w <| And.intro @b6L <| And.intro @c0a <| And.intro @c1h <| And.intro @b5z <| And.intro @b6q <| And.intro @c0T <| And.intro @b8l <| And.intro @b8v <| And.intro @b4T <| And.intro @a5Q <| And.intro @b2K <| And.intro @b3P <| And.intro @b1m <| And.intro @a8X <| And.intro @a7Y <| And.intro @a7e <| And.intro @b4F <| And.intro @a9w <| And.intro @b4X <| And.intro @b4P <| And.intro @b1G <| And.intro @b2d <| And.intro @b8i <| And.intro @b2a <| And.intro @a1g <| And.intro @a2r <| And.intro @a9m <| And.intro @b5v <| And.intro @b1A <| And.intro @b7S <| And.intro @a2z <| And.intro @a2E <| And.intro @b3T <| And.intro @c0V <| And.intro @a7w <| And.intro @a6R <| And.intro @b2p <| And.intro @b3h <| And.intro @a3U <| And.intro @a9D <| And.intro @a7E <| And.intro @a9z <| And.intro @a8k <| And.intro @a5v <| And.intro @a2C <| And.intro @a3Q <| And.intro @a1D <| And.intro @b1a <| And.intro @b7p <| And.intro @b7T <| And.intro @b3R <| And.intro @a8v <| And.intro @b2e <| And.intro @b2q <| And.intro @a9n <| And.intro @a9e <| And.intro @a6C <| And.intro @a6i <| And.intro @b5j <| And.intro @b2H <| And.intro @a2v <| And.intro @a8u <| And.intro @a5W <| And.intro @a2q <| And.intro @a6O <| And.intro @a8p <| And.intro @a6L <| @b4N
def RB :=
 And.intro @b8k <| And.intro @a7Z <| And.intro @a7X <| And.intro @b2x <| And.intro @a8q <| And.intro @a7h <| And.intro @a6E <| And.intro @b4U <| And.intro @a5j <| And.intro @a6T <| And.intro @b8j <| And.intro @b1B <| And.intro @a8g <| And.intro @b6D <| And.intro @b7V <| And.intro @b7i <| And.intro @b8o <| And.intro @a7O <| And.intro @a7c <| And.intro @b6W <| And.intro @c1s <| And.intro @b4u <| And.intro @a7b <| And.intro @a8e <| And.intro @b8h <| And.intro @b6k <| And.intro @b4A <| And.intro @b1y <| And.intro @b1K <| And.intro @b1I <| And.intro @b2N <| And.intro @b1n <| And.intro @b1T <| And.intro @b2o <| And.intro @b1x <| And.intro @b0N <| And.intro @b2s <| And.intro @b1J <| And.intro @b2L <| And.intro @b4J <| And.intro @b0Q <| And.intro @a3Y <| And.intro @b2U <| And.intro @b0T <| And.intro @b0M <| And.intro @b1L <| And.intro @b2S <| And.intro @b3n <| And.intro @b5L <| And.intro @b5S <| And.intro @b7C <| And.intro @b3A <| And.intro @a6X <| And.intro @a9G <| And.intro @a8d <| And.intro @b6P <| And.intro @b4r <| And.intro @a7a <| And.intro @b5o <| And.intro @b3L <| And.intro @b2r <| And.intro @a7U <| And.intro @b4o <| And.intro @b2c <| And.intro @a8T <| And.intro @b1c <| And.intro @b6b <| And.intro @a7N <| And.intro @b2i <| And.intro @b2C <| And.intro @a8H <| And.intro @b1l <| And.intro @a9F <| And.intro @b8e <| And.intro @a5F <| And.intro @a2Q <| And.intro @a8a <| And.intro @a5N <| And.intro @b8E <| And.intro @b3M <| And.intro @b1e <| And.intro @b5x <| And.intro @b4d <| And.intro @b1s <| And.intro @b5K <| And.intro @b1H <| And.intro @a4H <| And.intro @a7D <| And.intro @a6z <| And.intro @a9I <| And.intro @a8I <| And.intro @b5n <| And.intro @b4M <| And.intro @b2E <| And.intro @b5g <| And.intro @a5t <| And.intro @a4L <| And.intro @a7s <| And.intro @a5g <| And.intro @a6c <| And.intro @c3C <| And.intro @c3z <| And.intro @b8r <| And.intro @b6n <| And.intro @b2Y <| And.intro @b5B <| And.intro @b5r <| And.intro @a7K <| And.intro @b6m <| And.intro @b3Q <| And.intro @b7G <| And.intro @oQ <| And.intro @b5f <| And.intro @b4D <| @b8n
theorem RT :
 (∀ {α : Type} (l : List α), [] ++ l = l) ∧
 (∀ {α : Type} (l : List α), l ++ [] = l) ∧
 (∀ {α : Type} {a : α} {l m : List α}, a :: l ++ m = a :: (l ++ m)) ∧
 (∀ (cs : List Value) (i : Nat) (v : Value) (vs : List Value), iW cs i (v :: vs) = iW (cs.set i v) (i + 1) vs) ∧
 (∀ (cs : List Value) (i : Nat), iW cs i [] = cs) ∧
 (∀ {α : Type} {x : α} {xs : List α} {a : α}, (x :: xs).set 0 a = a :: xs) ∧
 (∀ {α : Type} {x : α} {xs : List α} {i : Nat} {a : α}, (x :: xs).set (i + 1) a = x :: xs.set i a) ∧
 (∀ (n : Nat), 0 + n = n) ∧
 (∀ (n : Nat), n * 1 = n) ∧
 (∀ (n : Nat), n + 0 = n) :=
 ⟨@List.nil_append, @List.append_nil, @List.cons_append, @pG, @sZ, @List.set_cons_zero, @List.set_cons_succ, @Nat.zero_add, @Nat.mul_one, @Nat.add_zero⟩
end Go.Ds
namespace Go.Ds
open Go.Proofs Go.Proofs.Tryz
abbrev I (n : Int) : Value := .int .i64 n
theorem sR (H : Heap) : St prog H H [] := .refl ..
theorem kE : prog.follows .mixedOrders = true := by kernel_rfl
theorem tS3 : iD prog 3 = some 1 := by kernel_rfl
theorem b8F : iD prog 26 = some 3 := by kernel_rfl
theorem b7W : iD prog 27 = some 5 := by kernel_rfl
theorem c1k : iD prog 29 = some 3 := by kernel_rfl
theorem c2B : iD prog 32 = some 1 := by kernel_rfl
theorem c2S : iD prog 33 = some 1 := by kernel_rfl
theorem b6V : iD prog 34 = some 1 := by kernel_rfl
theorem oN : iD prog 36 = some 4 := by kernel_rfl
theorem c4c : iD prog 38 = some 1 := by kernel_rfl
theorem b6G : iD prog 39 = some 1 := by kernel_rfl
theorem sV : iD prog 41 = some 3 := by kernel_rfl
theorem c1e : iD prog 44 = some 1 := by kernel_rfl
theorem b6Y : iD prog 46 = some 1 := by kernel_rfl
theorem c0Z : iD prog 47 = some 1 := by kernel_rfl
theorem vO : iD prog 52 = some 2 := by kernel_rfl
theorem c1J : iD prog 58 = some 1 := by kernel_rfl
theorem qO : iD prog 70 = some 2 := by kernel_rfl
theorem yZ : iD prog 88 = some 2 := by kernel_rfl
theorem b6y : iD prog 89 = some 1 := by kernel_rfl
theorem xF : iD prog 91 = some 6 := by kernel_rfl
theorem lB : iD prog 100 = some 2 := by kernel_rfl
theorem a9U : iD prog 105 = some 4 := by kernel_rfl
theorem b5m : iD prog 109 = some 9 := by kernel_rfl
theorem sN : iD prog 112 = some 2 := by kernel_rfl
theorem b9m : iD prog 113 = some 1 := by kernel_rfl
theorem uX : iD prog 115 = some 5 := by kernel_rfl
theorem vA : iD prog 116 = some 1 := by kernel_rfl
theorem oC : iD prog 118 = some 4 := by kernel_rfl
theorem b4x : iD prog 121 = some 4 := by kernel_rfl
theorem b0v : iD prog 123 = some 4 := by kernel_rfl
theorem vD : iD prog 125 = some 5 := by kernel_rfl
theorem a1W : iD prog 150 = some 3 := by kernel_rfl
theorem a0h : iD prog 152 = some 2 := by kernel_rfl
theorem b5F : iD prog 173 = some 1 := by kernel_rfl
theorem b0a : iD prog 194 = some 3 := by kernel_rfl
theorem c0N : iR prog 89 = some 1 := by kernel_rfl
theorem mZ : kY prog 110 = true ∧ nI prog 9 = true ∧ kY prog 9 = false := ⟨by kernel_rfl, by kernel_rfl, by kernel_rfl⟩
theorem c5e (A i e : Nat) (k : IntKind) (j : Int) (h0 : 0 ≤ j) (h1 : j < 5) : vN (iR prog 27) prog 27 (ptr A i e) (.int k j) = some (ptr A (i + j.toNat * 1) e) := a4z (n := 5) (elem := 5) (size := 1) (by kernel_rfl) (by kernel_rfl) A i e k j h0 h1
theorem c5v (A i e : Nat) (k : IntKind) (j : Int) (h0 : 0 ≤ j) (h1 : j < 3) : vN (iR prog 29) prog 29 (ptr A i e) (.int k j) = some (ptr A (i + j.toNat * 1) e) := a4z (n := 3) (elem := 28) (size := 1) (by kernel_rfl) (by kernel_rfl) A i e k j h0 h1
theorem c2D (A i e : Nat) (k : IntKind) (j : Int) (h0 : 0 ≤ j) (h1 : j < 64) : vN (iR prog 251) prog 251 (ptr A i e) (.int k j) = some (ptr A (i + j.toNat * 1) e) := a4z (n := 64) (elem := 5) (size := 1) (by kernel_rfl) (by kernel_rfl) A i e k j h0 h1
theorem b9Y : mO prog 32 = some (6, 80) := by kernel_rfl
theorem c2R : ((iJ prog 32).bind (iY prog)).any jA = true := by kernel_rfl
theorem c1p : mO prog 33 = some (5, 64) := by kernel_rfl
theorem c2A : ((iJ prog 33).bind (iY prog)).any jA = true := by kernel_rfl
theorem a9d : mO prog 34 = some (5, 48) := by kernel_rfl
theorem b7n : ((iJ prog 34).bind (iY prog)).any jA = true := by kernel_rfl
theorem c1B : mO prog 38 = some (1, 8) := by kernel_rfl
theorem c2h : ((iJ prog 38).bind (iY prog)).any jA = true := by kernel_rfl
theorem b3j : mO prog 44 = some (2, 16) := by kernel_rfl
theorem c1x : ((iJ prog 44).bind (iY prog)).any jA = true := by kernel_rfl
theorem a0z : mO prog 46 = some (2, 16) := by kernel_rfl
theorem b2n : ((iJ prog 46).bind (iY prog)).any jA = true := by kernel_rfl
theorem b0U : mO prog 58 = some (2, 16) := by kernel_rfl
theorem c3Q : ((iJ prog 58).bind (iY prog)).any jA = true := by kernel_rfl
theorem c0Q : mO prog 83 = some (3, 24) := by kernel_rfl
theorem c1I : ((iJ prog 83).bind (iY prog)).any jA = true := by kernel_rfl
theorem a0S : mO prog 89 = some (1, 8) := by kernel_rfl
theorem a6n : ((iJ prog 89).bind (iY prog)).any jA = true := by kernel_rfl
theorem b0K : mO prog 110 = some (1, 1) := by kernel_rfl
theorem b0E : ((iJ prog 110).bind (iY prog)).any jA = true := by kernel_rfl
theorem b3e : mO prog 113 = some (4, 56) := by kernel_rfl
theorem b9b : ((iJ prog 113).bind (iY prog)).any jA = true := by kernel_rfl
theorem pC : mO prog 116 = some (3, 40) := by kernel_rfl
theorem uV : ((iJ prog 116).bind (iY prog)).any jA = true := by kernel_rfl
theorem b9t : mO prog 127 = some (3, 40) := by kernel_rfl
theorem b8W : ((iJ prog 127).bind (iY prog)).any jA = true := by kernel_rfl
theorem a3B : mO prog 148 = some (2, 16) := by kernel_rfl
theorem a2S : ((iJ prog 148).bind (iY prog)).any jA = true := by kernel_rfl
theorem c3R : mO prog 155 = some (1, 16) := by kernel_rfl
theorem c3i : ((iJ prog 155).bind (iY prog)).any jA = true := by kernel_rfl
theorem b8N : mO prog 156 = some (2, 16) := by kernel_rfl
theorem c4e : ((iJ prog 156).bind (iY prog)).any jA = true := by kernel_rfl
theorem b9p : mO prog 205 = some (2, 16) := by kernel_rfl
theorem b9r : ((iJ prog 205).bind (iY prog)).any jA = true := by kernel_rfl
theorem c4B : c0H prog 89 = some (8, .int .i64 0) := by kernel_rfl
theorem c3t (t2 : TypeId) (cx cy : Bool) (a0 : Int) (a1 : Int) (b0 : Int) (b1 : Int) : kR prog .eql 52 t2 cx cy (.agg #[.int .i64 a0, .int .i64 a1]) (.agg #[.int .i64 b0, .int .i64 b1]) = some (.bool (decide (a0 = b0 ∧ a1 = b1))) ∧ kR prog .neq 52 t2 cx cy (.agg #[.int .i64 a0, .int .i64 a1]) (.agg #[.int .i64 b0, .int .i64 b1]) = some (.bool (decide (¬ (a0 = b0 ∧ a1 = b1)))) := by
 have h := xD (P := prog) (t := 52) (t2 := t2) (cx := cx) (cy := cy) (xs := [.int .i64 a0, .int .i64 a1]) (ys := [.int .i64 b0, .int .i64 b1]) (by kernel_rfl) (by kernel_rfl) (by kernel_rfl) (by kernel_rfl) rfl (by kernel_rfl) rfl rfl
 have e : ((List.range [Value.int .i64 a0, .int .i64 a1].length).all fun j => eqC ([Value.int .i64 a0, .int .i64 a1].getD j undef) ([Value.int .i64 b0, .int .i64 b1].getD j undef)) = decide (a0 = b0 ∧ a1 = b1) := by
  show (eqC (Value.int .i64 a0) (.int .i64 b0) && (eqC (Value.int .i64 a1) (.int .i64 b1) && true)) = _
  rw [dR]
  simp [eqC]
 rw [e] at h
 exact ⟨h.1, by rw [h.2]; simp⟩
theorem c1Z (t2 : TypeId) (cx cy : Bool) (a0 : Int) (a1 : Int) (b0 : Int) (b1 : Int) : kR prog .eql 52 t2 cx cy (.agg #[.int .i64 a0, .int .i64 a1]) (.agg #[.int .i64 b0, .int .i64 b1]) = some (.bool (decide (a0 = b0 ∧ a1 = b1))) := (c3t t2 cx cy a0 a1 b0 b1).1
theorem c2n (t2 : TypeId) (cx cy : Bool) (a0 : Int) (a1 : Int) (b0 : Int) (b1 : Int) : kR prog .neq 52 t2 cx cy (.agg #[.int .i64 a0, .int .i64 a1]) (.agg #[.int .i64 b0, .int .i64 b1]) = some (.bool (decide (¬ (a0 = b0 ∧ a1 = b1)))) := (c3t t2 cx cy a0 a1 b0 b1).2
theorem c3l (t2 : TypeId) (cx cy : Bool) (a0 : Int) (a1 : Int) (b0 : Int) (b1 : Int) : kR prog .eql 70 t2 cx cy (.agg #[.int .i64 a0, .int .i64 a1]) (.agg #[.int .i64 b0, .int .i64 b1]) = some (.bool (decide (a0 = b0 ∧ a1 = b1))) ∧ kR prog .neq 70 t2 cx cy (.agg #[.int .i64 a0, .int .i64 a1]) (.agg #[.int .i64 b0, .int .i64 b1]) = some (.bool (decide (¬ (a0 = b0 ∧ a1 = b1)))) := by
 have h := xD (P := prog) (t := 70) (t2 := t2) (cx := cx) (cy := cy) (xs := [.int .i64 a0, .int .i64 a1]) (ys := [.int .i64 b0, .int .i64 b1]) (by kernel_rfl) (by kernel_rfl) (by kernel_rfl) (by kernel_rfl) rfl (by kernel_rfl) rfl rfl
 have e : ((List.range [Value.int .i64 a0, .int .i64 a1].length).all fun j => eqC ([Value.int .i64 a0, .int .i64 a1].getD j undef) ([Value.int .i64 b0, .int .i64 b1].getD j undef)) = decide (a0 = b0 ∧ a1 = b1) := by
  show (eqC (Value.int .i64 a0) (.int .i64 b0) && (eqC (Value.int .i64 a1) (.int .i64 b1) && true)) = _
  rw [dR]
  simp [eqC]
 rw [e] at h
 exact ⟨h.1, by rw [h.2]; simp⟩
theorem c1U (t2 : TypeId) (cx cy : Bool) (a0 : Int) (a1 : Int) (b0 : Int) (b1 : Int) : kR prog .eql 70 t2 cx cy (.agg #[.int .i64 a0, .int .i64 a1]) (.agg #[.int .i64 b0, .int .i64 b1]) = some (.bool (decide (a0 = b0 ∧ a1 = b1))) := (c3l t2 cx cy a0 a1 b0 b1).1
theorem c2k (t2 : TypeId) (cx cy : Bool) (a0 : Int) (a1 : Int) (b0 : Int) (b1 : Int) : kR prog .neq 70 t2 cx cy (.agg #[.int .i64 a0, .int .i64 a1]) (.agg #[.int .i64 b0, .int .i64 b1]) = some (.bool (decide (¬ (a0 = b0 ∧ a1 = b1)))) := (c3l t2 cx cy a0 a1 b0 b1).2
theorem b9q (t2 : TypeId) (cx cy : Bool) (a0 : Int) (a1 : Int) (b0 : Int) (b1 : Int) : kR prog .eql 100 t2 cx cy (.agg #[.int .u64 a0, .int .u64 a1]) (.agg #[.int .u64 b0, .int .u64 b1]) = some (.bool (decide (a0 = b0 ∧ a1 = b1))) ∧ kR prog .neq 100 t2 cx cy (.agg #[.int .u64 a0, .int .u64 a1]) (.agg #[.int .u64 b0, .int .u64 b1]) = some (.bool (decide (¬ (a0 = b0 ∧ a1 = b1)))) := by
 have h := xD (P := prog) (t := 100) (t2 := t2) (cx := cx) (cy := cy) (xs := [.int .u64 a0, .int .u64 a1]) (ys := [.int .u64 b0, .int .u64 b1]) (by kernel_rfl) (by kernel_rfl) (by kernel_rfl) (by kernel_rfl) rfl (by kernel_rfl) rfl rfl
 have e : ((List.range [Value.int .u64 a0, .int .u64 a1].length).all fun j => eqC ([Value.int .u64 a0, .int .u64 a1].getD j undef) ([Value.int .u64 b0, .int .u64 b1].getD j undef)) = decide (a0 = b0 ∧ a1 = b1) := by
  show (eqC (Value.int .u64 a0) (.int .u64 b0) && (eqC (Value.int .u64 a1) (.int .u64 b1) && true)) = _
  rw [dR]
  simp [eqC]
 rw [e] at h
 exact ⟨h.1, by rw [h.2]; simp⟩
theorem c1b (t2 : TypeId) (cx cy : Bool) (a0 : Int) (a1 : Int) (b0 : Int) (b1 : Int) : kR prog .eql 100 t2 cx cy (.agg #[.int .u64 a0, .int .u64 a1]) (.agg #[.int .u64 b0, .int .u64 b1]) = some (.bool (decide (a0 = b0 ∧ a1 = b1))) := (b9q t2 cx cy a0 a1 b0 b1).1
theorem b9J (t2 : TypeId) (cx cy : Bool) (a0 : Int) (a1 : Int) (b0 : Int) (b1 : Int) : kR prog .neq 100 t2 cx cy (.agg #[.int .u64 a0, .int .u64 a1]) (.agg #[.int .u64 b0, .int .u64 b1]) = some (.bool (decide (¬ (a0 = b0 ∧ a1 = b1)))) := (b9q t2 cx cy a0 a1 b0 b1).2
theorem b9i (t2 : TypeId) (cx cy : Bool) (a0 : Int) (a1 : Int) (b0 : Int) (b1 : Int) : kR prog .eql 152 t2 cx cy (.agg #[.int .i64 a0, .int .i64 a1]) (.agg #[.int .i64 b0, .int .i64 b1]) = some (.bool (decide (a0 = b0 ∧ a1 = b1))) ∧ kR prog .neq 152 t2 cx cy (.agg #[.int .i64 a0, .int .i64 a1]) (.agg #[.int .i64 b0, .int .i64 b1]) = some (.bool (decide (¬ (a0 = b0 ∧ a1 = b1)))) := by
 have h := xD (P := prog) (t := 152) (t2 := t2) (cx := cx) (cy := cy) (xs := [.int .i64 a0, .int .i64 a1]) (ys := [.int .i64 b0, .int .i64 b1]) (by kernel_rfl) (by kernel_rfl) (by kernel_rfl) (by kernel_rfl) rfl (by kernel_rfl) rfl rfl
 have e : ((List.range [Value.int .i64 a0, .int .i64 a1].length).all fun j => eqC ([Value.int .i64 a0, .int .i64 a1].getD j undef) ([Value.int .i64 b0, .int .i64 b1].getD j undef)) = decide (a0 = b0 ∧ a1 = b1) := by
  show (eqC (Value.int .i64 a0) (.int .i64 b0) && (eqC (Value.int .i64 a1) (.int .i64 b1) && true)) = _
  rw [dR]
  simp [eqC]
 rw [e] at h
 exact ⟨h.1, by rw [h.2]; simp⟩
theorem b9K (t2 : TypeId) (cx cy : Bool) (a0 : Int) (a1 : Int) (b0 : Int) (b1 : Int) : kR prog .eql 152 t2 cx cy (.agg #[.int .i64 a0, .int .i64 a1]) (.agg #[.int .i64 b0, .int .i64 b1]) = some (.bool (decide (a0 = b0 ∧ a1 = b1))) := (b9i t2 cx cy a0 a1 b0 b1).1
theorem c0B (t2 : TypeId) (cx cy : Bool) (a0 : Int) (a1 : Int) (b0 : Int) (b1 : Int) : kR prog .neq 152 t2 cx cy (.agg #[.int .i64 a0, .int .i64 a1]) (.agg #[.int .i64 b0, .int .i64 b1]) = some (.bool (decide (¬ (a0 = b0 ∧ a1 = b1)))) := (b9i t2 cx cy a0 a1 b0 b1).2
theorem mP {a1 : Int} {a2 : Int} {a3 : Int} {a4 : Int} {a5 : Int} : kP prog 27 [(0, .int .u8 a1), (1, .int .u8 a2), (2, .int .u8 a3), (3, .int .u8 a4), (4, .int .u8 a5)] = some (.agg #[.int .u8 a1, .int .u8 a2, .int .u8 a3, .int .u8 a4, .int .u8 a5]) := by kernel_rfl
theorem c1c {a1 : ByteArray} : kP prog 36 [(0, .string a1)] = some (.agg #[.string a1, .slice none 0 0, .slice none 0 0, .slice none 0 0]) := by kernel_rfl
theorem a3P {a1 : ByteArray} {a2 : Value} {a3 : Value} {a4 : Value} (h2 : a2.cells = #[a2] ∧ oneCell a2 = true ∧ oU a2 = true) (h3 : a3.cells = #[a3] ∧ oneCell a3 = true ∧ oU a3 = true) (h4 : a4.cells = #[a4] ∧ oneCell a4 = true ∧ oU a4 = true) : kP prog 36 [(0, .string a1), (1, a2), (2, a3), (3, a4)] = some (.agg #[.string a1, a2, a3, a4]) := by cases a2 <;> cases a3 <;> cases a4 <;> first | (exfalso; simp [oneCell] at h2; done) | (exfalso; simp [oneCell] at h3; done) | (exfalso; simp [oneCell] at h4; done) | kernel_rfl
theorem b5y {a1 : Value} {a2 : Int} (h1 : a1.cells = #[a1] ∧ oneCell a1 = true ∧ oU a1 = true) : kP prog 41 [(0, a1), (1, .int .u64 a2)] = some (.agg #[a1, .int .u64 a2, .int .u64 0]) := by cases a1 <;> first | (exfalso; simp [oneCell] at h1; done) | kernel_rfl
theorem b3N {a1 : Int} {a2 : Int} : kP prog 41 [(1, .int .u64 a1), (2, .int .u64 a2)] = some (.agg #[.slice none 0 0, .int .u64 a1, .int .u64 a2]) := by kernel_rfl
theorem tP {a1 : Int} {a2 : Int} : kP prog 52 [(0, .int .i64 a1), (1, .int .i64 a2)] = some (.agg #[.int .i64 a1, .int .i64 a2]) := by kernel_rfl
theorem b8P : kP prog 70 [] = some (.agg #[.int .i64 0, .int .i64 0]) := by kernel_rfl
theorem a1m {a1 : Int} {a2 : Int} : kP prog 70 [(0, .int .i64 a1), (1, .int .i64 a2)] = some (.agg #[.int .i64 a1, .int .i64 a2]) := by kernel_rfl
theorem tC {a1 : Int} {a2 : Int} : kP prog 88 [(0, .int .i64 a1), (1, .int .i64 a2)] = some (.agg #[.int .i64 a1, .int .i64 a2]) := by kernel_rfl
theorem a4Q {a1 : ByteArray} {a2 : ByteArray} {a3 : Int} {a4 : Int} {a5 : Int} : kP prog 91 [(0, .string a1), (1, .string a2), (2, .agg #[.int .i64 a3, .int .i64 a4]), (3, .int .i64 a5)] = some (.agg #[.string a1, .string a2, .int .i64 a3, .int .i64 a4, .int .i64 a5, .slice none 0 0]) := by kernel_rfl
theorem a1e {a1 : ByteArray} {a2 : ByteArray} {a3 : Int} {a4 : Int} {a5 : Int} {a6 : Value} (h6 : a6.cells = #[a6] ∧ oneCell a6 = true ∧ oU a6 = true) : kP prog 91 [(0, .string a1), (1, .string a2), (2, .agg #[.int .i64 a3, .int .i64 a4]), (3, .int .i64 a5), (4, a6)] = some (.agg #[.string a1, .string a2, .int .i64 a3, .int .i64 a4, .int .i64 a5, a6]) := by cases a6 <;> first | (exfalso; simp [oneCell] at h6; done) | kernel_rfl
theorem a5b {a1 : Int} {a2 : Int} {a3 : Int} : kP prog 94 [(0, .agg #[.int .i64 a1, .int .i64 a2]), (1, .int .i64 a3)] = some (.agg #[.int .i64 a1, .int .i64 a2, .int .i64 a3]) := by kernel_rfl
theorem b3C : kP prog 100 [] = some (.agg #[.int .u64 0, .int .u64 0]) := by kernel_rfl
theorem b2Q {a1 : Int} {a2 : Int} : kP prog 100 [(0, .int .u64 a1), (1, .int .u64 a2)] = some (.agg #[.int .u64 a1, .int .u64 a2]) := by kernel_rfl
theorem a3f {a1 : Int} {a2 : Int} : kP prog 112 [(0, .int .i64 a1), (1, .int .i64 a2)] = some (.agg #[.int .i64 a1, .int .i64 a2]) := by kernel_rfl
theorem a4Z {a1 : ByteArray} {a2 : Bool} {a3 : Int} {a4 : Int} : kP prog 115 [(0, .string a1), (1, .bool a2), (2, .agg #[.int .i64 a3, .int .i64 a4])] = some (.agg #[.string a1, .bool a2, .int .i64 a3, .int .i64 a4, .slice none 0 0]) := by kernel_rfl
theorem a0q {a1 : ByteArray} {a2 : Int} {a3 : Int} {a4 : Value} (h4 : a4.cells = #[a4] ∧ oneCell a4 = true ∧ oU a4 = true) : kP prog 115 [(0, .string a1), (2, .agg #[.int .i64 a2, .int .i64 a3]), (3, a4)] = some (.agg #[.string a1, .bool false, .int .i64 a2, .int .i64 a3, a4]) := by cases a4 <;> first | (exfalso; simp [oneCell] at h4; done) | kernel_rfl
theorem b1F {a1 : ByteArray} {a2 : Int} {a3 : Int} : kP prog 118 [(0, .string a1), (1, .agg #[.int .i64 a2, .int .i64 a3])] = some (.agg #[.string a1, .int .i64 a2, .int .i64 a3, .slice none 0 0]) := by kernel_rfl
theorem a7j {a1 : ByteArray} {a2 : Int} {a3 : Int} {a4 : Value} (h4 : a4.cells = #[a4] ∧ oneCell a4 = true ∧ oU a4 = true) : kP prog 118 [(0, .string a1), (1, .agg #[.int .i64 a2, .int .i64 a3]), (2, a4)] = some (.agg #[.string a1, .int .i64 a2, .int .i64 a3, a4]) := by cases a4 <;> first | (exfalso; simp [oneCell] at h4; done) | kernel_rfl
theorem a6P {a1 : ByteArray} {a2 : Int} {a3 : Int} : kP prog 125 [(0, .string a1), (1, .int .i64 a2), (2, .int .i64 a3)] = some (.agg #[.string a1, .int .i64 a2, .int .i64 a3, .int .i64 0, .bool false]) := by kernel_rfl
theorem a0y {a1 : ByteArray} {a2 : Int} {a3 : Int} {a4 : Int} {a5 : Bool} : kP prog 125 [(0, .string a1), (1, .int .i64 a2), (2, .int .i64 a3), (3, .int .i64 a4), (4, .bool a5)] = some (.agg #[.string a1, .int .i64 a2, .int .i64 a3, .int .i64 a4, .bool a5]) := by kernel_rfl
theorem c1d : kP prog 150 [] = some (.agg #[.int .i64 0, .int .i64 0, .slice none 0 0]) := by kernel_rfl
theorem lF {a1 : Int} {a2 : Int} {a3 : Value} (h3 : a3.cells = #[a3] ∧ oneCell a3 = true ∧ oU a3 = true) : kP prog 150 [(0, .int .i64 a1), (1, .int .i64 a2), (2, a3)] = some (.agg #[.int .i64 a1, .int .i64 a2, a3]) := by cases a3 <;> first | (exfalso; simp [oneCell] at h3; done) | kernel_rfl
theorem pM {a1 : Int} {a2 : Int} : kP prog 152 [(0, .int .i64 a1), (1, .int .i64 a2)] = some (.agg #[.int .i64 a1, .int .i64 a2]) := by kernel_rfl
theorem b1k {a1 : Value} {a2 : Int} {a3 : Int} (h1 : a1.cells = #[a1] ∧ oneCell a1 = true ∧ oU a1 = true) : kP prog 194 [(0, a1), (1, .agg #[.int .i64 a2, .int .i64 a3])] = some (.agg #[a1, .int .i64 a2, .int .i64 a3]) := by cases a1 <;> first | (exfalso; simp [oneCell] at h1; done) | kernel_rfl
theorem b2f {a1 : Int} {a2 : Int} : kP prog 219 [(0, .int .u64 a1), (1, .int .u64 a2)] = some (.agg #[.int .u64 a1, .int .u64 a2]) := by kernel_rfl
theorem tR5 (l : List Value) (H : Heap) : iC prog Tryz.f5 l H = some (get l 6) := rfl
theorem c4X (l : List Value) (H : Heap) : iC prog Tryz.f10 l H = some (get l 0) := rfl
theorem a8Y (l : List Value) (H : Heap) : iC prog Tryz.f11 l H = some (get l 2) := rfl
theorem c4I (l : List Value) (H : Heap) : iC prog Tryz.f12 l H = oZ (jM prog 36) (iD prog 36) H (get l 2) := by
 show (Option.bind (Option.bind (lN prog H 36 (get l 2)) fun v => some [v]) fun vs => _) = _
 rw [lK]
 cases oZ _ _ H (get l 2) <;> rfl
theorem c4x (l : List Value) (H : Heap) : iC prog Tryz.f13 l H = oZ (jM prog 41) (iD prog 41) H (get l 4) := by
 show (Option.bind (Option.bind (lN prog H 41 (get l 4)) fun v => some [v]) fun vs => _) = _
 rw [lK]
 cases oZ _ _ H (get l 4) <;> rfl
theorem c4F (l : List Value) (H : Heap) : iC prog Tryz.f14 l H = some (get l 4) := rfl
theorem c2T (l : List Value) (H : Heap) : iC prog Tryz.f15 l H = if (jZ (get l 6) && (jZ (get l 7) && true)) = true then some (.tuple #[get l 6, get l 7]) else none := rfl
theorem b9O (l : List Value) (H : Heap) : iC prog Tryz.f16 l H = some (get l 4) := rfl
theorem b0S (l : List Value) (H : Heap) : iC prog Tryz.f18 l H = some (get l 4) := rfl
theorem b7v (l : List Value) (H : Heap) : iC prog Tryz.f19 l H = some (get l 4) := rfl
theorem c1Q (l : List Value) (H : Heap) : iC prog Tryz.f20 l H = if (jZ (get l 6) && (jZ (get l 7) && true)) = true then some (.tuple #[get l 6, get l 7]) else none := rfl
theorem c5c (l : List Value) (H : Heap) : iC prog Tryz.f22 l H = some (get l 5) := rfl
theorem c4T (l : List Value) (H : Heap) : iC prog Tryz.f23 l H = if (jZ (get l 4) && (jZ (get l 5) && true)) = true then some (.tuple #[get l 4, get l 5]) else none := rfl
theorem c4y (l : List Value) (H : Heap) : iC prog Tryz.f24 l H = some (get l 4) := rfl
theorem c0b (l : List Value) (H : Heap) : iC prog Tryz.f26 l H = some (get l 4) := rfl
theorem a2A (l : List Value) (H : Heap) : iC prog Tryz.f35 l H = some (get l 2) := rfl
theorem c4l (l : List Value) (H : Heap) : iC prog Tryz.f36 l H = if (jZ (get l 6) && (jZ (get l 7) && true)) = true then some (.tuple #[get l 6, get l 7]) else none := rfl
theorem c4D (l : List Value) (H : Heap) : iC prog Tryz.f38 l H = some (.tuple #[]) := rfl
theorem c0g (l : List Value) (H : Heap) : iC prog Tryz.f40 l H = some (get l 4) := rfl
theorem c4u (l : List Value) (H : Heap) : iC prog Tryz.f41 l H = oZ (jM prog 36) (iD prog 36) H (get l 0) := by
 show (Option.bind (Option.bind (lN prog H 36 (get l 0)) fun v => some [v]) fun vs => _) = _
 rw [lK]
 cases oZ _ _ H (get l 0) <;> rfl
theorem c4w (l : List Value) (H : Heap) : iC prog Tryz.f42 l H = (oZ (jM prog 100) (iD prog 100) H (get l 2)).bind fun v => if (jZ v && (jZ (get l 3) && true)) = true then some (.tuple #[v, get l 3]) else none := by
 show (Option.bind (Option.bind (lN prog H 100 (get l 2)) fun v => some [v, get l 3]) fun vs => _) = _
 rw [lK]
 cases oZ _ _ H (get l 2) <;> rfl
theorem c5k (l : List Value) (H : Heap) : iC prog Tryz.f43 l H = oZ (jM prog 91) (iD prog 91) H (get l 4) := by
 show (Option.bind (Option.bind (lN prog H 91 (get l 4)) fun v => some [v]) fun vs => _) = _
 rw [lK]
 cases oZ _ _ H (get l 4) <;> rfl
theorem a8J (l : List Value) (H : Heap) : iC prog Tryz.f44 l H = oZ (jM prog 118) (iD prog 118) H (get l 8) := by
 show (Option.bind (Option.bind (lN prog H 118 (get l 8)) fun v => some [v]) fun vs => _) = _
 rw [lK]
 cases oZ _ _ H (get l 8) <;> rfl
theorem c3L (l : List Value) (H : Heap) : iC prog Tryz.f45 l H = some (get l 6) := rfl
theorem c4K (l : List Value) (H : Heap) : iC prog Tryz.f46 l H = some (get l 6) := rfl
theorem c4z (l : List Value) (H : Heap) : iC prog Tryz.f47 l H = some (get l 2) := rfl
theorem c4R (l : List Value) (H : Heap) : iC prog Tryz.f53 l H = (oZ (jM prog 100) (iD prog 100) H (get l 2)).bind fun v => if (jZ v && (jZ (get l 3) && true)) = true then some (.tuple #[v, get l 3]) else none := by
 show (Option.bind (Option.bind (lN prog H 100 (get l 2)) fun v => some [v, get l 3]) fun vs => _) = _
 rw [lK]
 cases oZ _ _ H (get l 2) <;> rfl
theorem c4A (l : List Value) (H : Heap) : iC prog Tryz.f54 l H = some (get l 4) := rfl
theorem c5s (l : List Value) (H : Heap) : iC prog Tryz.f55 l H = some (get l 6) := rfl
theorem c4W (l : List Value) (H : Heap) : iC prog Tryz.f57 l H = some (get l 2) := rfl
theorem c1Y (l : List Value) (H : Heap) : iC prog Tryz.f58 l H = some (get l 4) := rfl
theorem c4b (l : List Value) (H : Heap) : iC prog Tryz.f59 l H = some (get l 2) := rfl
theorem c4M (l : List Value) (H : Heap) : iC prog Tryz.f60 l H = some (get l 3) := rfl
theorem c4J (l : List Value) (H : Heap) : iC prog Tryz.f61 l H = some (get l 4) := rfl
theorem b9R (l : List Value) (H : Heap) : iC prog Tryz.f64 l H = some (get l 2) := rfl
theorem c5i (l : List Value) (H : Heap) : iC prog Tryz.f66 l H = some (get l 6) := rfl
theorem b4j (l : List Value) (H : Heap) : iC prog Tryz.f67 l H = some (get l 4) := rfl
theorem b2y (l : List Value) (H : Heap) : iC prog Tryz.f73 l H = some (get l 2) := rfl
theorem a8i (l : List Value) (H : Heap) : iC prog Tryz.f74 l H = some (get l 2) := rfl
theorem c3S (l : List Value) (H : Heap) : iC prog Tryz.f75 l H = some (get l 4) := rfl
theorem b5X (l : List Value) (H : Heap) : iC prog Tryz.f76 l H = some (get l 4) := rfl
theorem zI (l : List Value) (H : Heap) : iC prog Tryz.f77 l H = some (get l 4) := rfl
theorem c5B (l : List Value) (H : Heap) : iC prog Tryz.f78 l H = if (jZ (get l 4) && (jZ (get l 5) && true)) = true then some (.tuple #[get l 4, get l 5]) else none := rfl
theorem c1g (l : List Value) (H : Heap) : iC prog Tryz.f80 l H = some (get l 4) := rfl
theorem c5q (l : List Value) (H : Heap) : iC prog Tryz.f82 l H = some (.tuple #[]) := rfl
theorem c4H (l : List Value) (H : Heap) : iC prog Tryz.f83 l H = some (get l 6) := rfl
theorem c5A (l : List Value) (H : Heap) : iC prog Tryz.f84 l H = oZ (jM prog 91) (iD prog 91) H (get l 2) := by
 show (Option.bind (Option.bind (lN prog H 91 (get l 2)) fun v => some [v]) fun vs => _) = _
 rw [lK]
 cases oZ _ _ H (get l 2) <;> rfl
theorem c5x (l : List Value) (H : Heap) : iC prog Tryz.f85 l H = some (get l 2) := rfl
theorem c3x (l : List Value) (H : Heap) : iC prog Tryz.f86 l H = oZ (jM prog 100) (iD prog 100) H (get l 4) := by
 show (Option.bind (Option.bind (lN prog H 100 (get l 4)) fun v => some [v]) fun vs => _) = _
 rw [lK]
 cases oZ _ _ H (get l 4) <;> rfl
theorem c4C (l : List Value) (H : Heap) : iC prog Tryz.f87 l H = oZ (jM prog 88) (iD prog 88) H (get l 2) := by
 show (Option.bind (Option.bind (lN prog H 88 (get l 2)) fun v => some [v]) fun vs => _) = _
 rw [lK]
 cases oZ _ _ H (get l 2) <;> rfl
theorem c4r (l : List Value) (H : Heap) : iC prog Tryz.f88 l H = oZ (jM prog 88) (iD prog 88) H (get l 2) := by
 show (Option.bind (Option.bind (lN prog H 88 (get l 2)) fun v => some [v]) fun vs => _) = _
 rw [lK]
 cases oZ _ _ H (get l 2) <;> rfl
theorem c0i (l : List Value) (H : Heap) : iC prog Tryz.f89 l H = some (get l 4) := rfl
theorem c3j (l : List Value) (H : Heap) : iC prog Tryz.f90 l H = some (.tuple #[]) := rfl
theorem c5h (l : List Value) (H : Heap) : iC prog Tryz.f91 l H = some (get l 4) := rfl
theorem c1C (l : List Value) (H : Heap) : iC prog Tryz.f92 l H = some (get l 2) := rfl
theorem b8g (l : List Value) (H : Heap) : iC prog Tryz.f97 l H = some (get l 2) := rfl
theorem c4E (l : List Value) (H : Heap) : iC prog Tryz.f98 l H = oZ (jM prog 100) (iD prog 100) H (get l 4) := by
 show (Option.bind (Option.bind (lN prog H 100 (get l 4)) fun v => some [v]) fun vs => _) = _
 rw [lK]
 cases oZ _ _ H (get l 4) <;> rfl
theorem c3p (l : List Value) (H : Heap) : iC prog Tryz.f100 l H = some (get l 4) := rfl
theorem c2u (l : List Value) (H : Heap) : iC prog Tryz.f101 l H = some (get l 2) := rfl
theorem c3q (l : List Value) (H : Heap) : iC prog Tryz.f102 l H = some (get l 2) := rfl
theorem b8U (l : List Value) (H : Heap) : iC prog Tryz.f103 l H = some (get l 4) := rfl
theorem b9g (l : List Value) (H : Heap) : iC prog Tryz.f104 l H = some (get l 4) := rfl
theorem c2f (l : List Value) (H : Heap) : iC prog Tryz.f106 l H = some (get l 6) := rfl
theorem a5X (l : List Value) (H : Heap) : iC prog Tryz.f107 l H = some (get l 2) := rfl
theorem a5J (l : List Value) (H : Heap) : iC prog Tryz.f108 l H = some (get l 2) := rfl
theorem b8V (l : List Value) (H : Heap) : iC prog Tryz.f109 l H = some (get l 2) := rfl
theorem b8S (l : List Value) (H : Heap) : iC prog Tryz.f110 l H = some (get l 2) := rfl
theorem sJ (l : List Value) (H : Heap) : iC prog Tryz.f111 l H = some (get l 4) := rfl
theorem c3u (l : List Value) (H : Heap) : iC prog Tryz.f112 l H = some (get l 4) := rfl
theorem c2j (l : List Value) (H : Heap) : iC prog Tryz.f113 l H = some (get l 3) := rfl
theorem b9x (l : List Value) (H : Heap) : iC prog Tryz.f114 l H = some (get l 4) := rfl
theorem c2H (l : List Value) (H : Heap) : iC prog Tryz.f115 l H = some (get l 4) := rfl
theorem c3H (l : List Value) (H : Heap) : iC prog Tryz.f116 l H = some (get l 2) := rfl
theorem c1H (l : List Value) (H : Heap) : iC prog Tryz.f120 l H = some (.tuple #[]) := rfl
theorem c3E (l : List Value) (H : Heap) : iC prog Tryz.f122 l H = some (get l 4) := rfl
theorem b9y (l : List Value) (H : Heap) : iC prog Tryz.f123 l H = some (get l 2) := rfl
theorem c3y (l : List Value) (H : Heap) : iC prog Tryz.f134 l H = some (get l 4) := rfl
theorem c2m (l : List Value) (H : Heap) : iC prog Tryz.f135 l H = some (.tuple #[]) := rfl
theorem c1O (l : List Value) (H : Heap) : iC prog Tryz.f136 l H = some (get l 2) := rfl
theorem b8K (l : List Value) (H : Heap) : iC prog Tryz.f145 l H = oZ (jM prog 150) (iD prog 150) H (get l 4) := by
 show (Option.bind (Option.bind (lN prog H 150 (get l 4)) fun v => some [v]) fun vs => _) = _
 rw [lK]
 cases oZ _ _ H (get l 4) <;> rfl
theorem b0D (l : List Value) (H : Heap) : iC prog Tryz.f146 l H = (oZ (jM prog 70) (iD prog 70) H (get l 6)).bind fun v => if (jZ v && (jZ (get l 7) && true)) = true then some (.tuple #[v, get l 7]) else none := by
 show (Option.bind (Option.bind (lN prog H 70 (get l 6)) fun v => some [v, get l 7]) fun vs => _) = _
 rw [lK]
 cases oZ _ _ H (get l 6) <;> rfl
theorem c3m (l : List Value) (H : Heap) : iC prog Tryz.f147 l H = some (get l 2) := rfl
theorem a2G (l : List Value) (H : Heap) : iC prog Tryz.f148 l H = some (get l 2) := rfl
theorem c2p (l : List Value) (H : Heap) : iC prog Tryz.f149 l H = some (get l 4) := rfl
theorem b8T (l : List Value) (H : Heap) : iC prog Tryz.f150 l H = some (get l 2) := rfl
theorem b3J (l : List Value) (H : Heap) : iC prog Tryz.f151 l H = some (get l 2) := rfl
theorem a1V (l : List Value) (H : Heap) : iC prog Tryz.f152 l H = some (get l 4) := rfl
theorem b8I (l : List Value) (H : Heap) : iC prog Tryz.f153 l H = some (get l 4) := rfl
theorem b8Z (l : List Value) (H : Heap) : iC prog Tryz.f177 l H = some (get l 4) := rfl
theorem b9v (l : List Value) (H : Heap) : iC prog Tryz.f178 l H = some (get l 3) := rfl
theorem c3O (l : List Value) (H : Heap) : iC prog Tryz.f179 l H = some (get l 4) := rfl
theorem c2Z (l : List Value) (H : Heap) : iC prog Tryz.f180 l H = some (get l 4) := rfl
theorem b9k (l : List Value) (H : Heap) : iC prog Tryz.f181 l H = some (get l 2) := rfl
theorem b9e (l : List Value) (H : Heap) : iC prog Tryz.f182 l H = some (get l 4) := rfl
theorem c2O (l : List Value) (H : Heap) : iC prog Tryz.f183 l H = some (get l 4) := rfl
theorem b8J (l : List Value) (H : Heap) : iC prog Tryz.f205 l H = some (get l 4) := rfl
theorem a6K : MapK prog 158 Value.string (.bool false) := MapK.str (kt := 9) (et := 4) (by kernel_rfl) (by kernel_rfl) (by kernel_rfl) rfl
theorem a7d : MapK prog 173 (fun p : Int × Int => .agg #[I p.1, I p.2]) (.bool false) := MapK.struct (kt := 52) (et := 4) (fs := (sT prog 52).toArray) (by kernel_rfl) (by kernel_rfl) (by kernel_rfl) rfl (fun b k => by cases b <;> kernel_rfl) (fun a b => c0k (by kernel_rfl) (by kernel_rfl) (by kernel_rfl) (fun _ _ _ _ => by kernel_rfl) a b) (fun k => b9z k)
theorem tt0 : jM prog 3 = some false ∧ jM prog 4 = some false ∧ iD prog 4 = some 1 ∧ jM prog 5 = some false ∧ iD prog 5 = some 1 ∧ jM prog 9 = some false ∧ iD prog 9 = some 1 ∧ jM prog 22 = some false ∧ iD prog 22 = some 1 ∧ jM prog 23 = some false ∧ iD prog 23 = some 1 ∧ jM prog 24 = some false ∧ iD prog 24 = some 1 ∧ jM prog 26 = some true ∧ jM prog 27 = some true ∧ jM prog 28 = some false ∧ iD prog 28 = some 1 ∧ jM prog 29 = some true ∧ jM prog 32 = some false ∧ jM prog 33 = some false ∧ jM prog 34 = some false ∧ jM prog 36 = some true ∧ jM prog 38 = some false ∧ jM prog 39 = some false ∧ jM prog 41 = some true ∧ jM prog 44 = some false ∧ jM prog 46 = some false ∧ jM prog 47 = some false ∧ jM prog 52 = some true ∧ jM prog 58 = some false ∧ jM prog 70 = some true ∧ jM prog 88 = some true ∧ jM prog 89 = some false ∧ jM prog 91 = some true ∧ jM prog 94 = some true ∧ iD prog 94 = some 3 ∧ jM prog 100 = some true ∧ jM prog 103 = some false ∧ iD prog 103 = some 1 ∧ jM prog 105 = some true := by and_intros <;> kernel_rfl
theorem tt1 : jM prog 107 = some false ∧ iD prog 107 = some 1 ∧ jM prog 109 = some true ∧ jM prog 112 = some true ∧ jM prog 113 = some false ∧ jM prog 115 = some true ∧ jM prog 116 = some false ∧ jM prog 118 = some true ∧ jM prog 121 = some true ∧ jM prog 123 = some true ∧ jM prog 125 = some true ∧ jM prog 148 = some false ∧ iD prog 148 = some 1 ∧ jM prog 150 = some true ∧ jM prog 152 = some true ∧ jM prog 173 = some false ∧ jM prog 194 = some true ∧ iR prog 22 = some 9 ∧ iR prog 23 = some 4 ∧ iR prog 24 = some 4 ∧ iR prog 32 = some 6 ∧ iR prog 33 = some 5 ∧ iR prog 34 = some 5 ∧ iR prog 38 = some 1 ∧ iR prog 44 = some 2 ∧ iR prog 46 = some 2 ∧ iR prog 58 = some 2 ∧ iR prog 83 = some 3 ∧ iR prog 103 = some 4 ∧ iR prog 110 = some 1 ∧ iR prog 113 = some 4 ∧ iR prog 116 = some 3 ∧ iR prog 127 = some 3 ∧ iR prog 148 = some 2 ∧ iR prog 155 = some 1 ∧ iR prog 156 = some 2 ∧ iR prog 205 = some 2 ∧ lC prog 32 = true ∧ lC prog 33 = true ∧ lC prog 34 = true := by and_intros <;> kernel_rfl
theorem tt2 : lC prog 38 = true ∧ lC prog 44 = true ∧ lC prog 46 = true ∧ lC prog 58 = true ∧ lC prog 83 = true ∧ lC prog 89 = true ∧ lC prog 110 = true ∧ lC prog 113 = true ∧ lC prog 116 = true ∧ lC prog 127 = true ∧ lC prog 148 = true ∧ lC prog 155 = true ∧ lC prog 156 = true ∧ lC prog 205 = true ∧ iR prog 9 = none ∧ nI prog 9 = true ∧ iV prog 26 0 = some 0 ∧ iV prog 26 1 = some 1 ∧ iV prog 26 2 = some 2 ∧ iV prog 36 0 = some 0 ∧ iV prog 36 1 = some 1 ∧ iV prog 36 2 = some 2 ∧ iV prog 36 3 = some 3 ∧ iV prog 41 0 = some 0 ∧ iV prog 41 1 = some 1 ∧ iV prog 41 2 = some 2 ∧ iV prog 52 0 = some 0 ∧ iV prog 52 1 = some 1 ∧ iV prog 70 0 = some 0 ∧ iV prog 70 1 = some 1 ∧ iV prog 88 0 = some 0 ∧ iV prog 88 1 = some 1 ∧ iV prog 91 0 = some 0 ∧ iV prog 91 1 = some 1 ∧ iV prog 91 2 = some 2 ∧ iV prog 91 3 = some 4 ∧ iV prog 91 4 = some 5 ∧ iV prog 100 0 = some 0 ∧ iV prog 100 1 = some 1 ∧ iV prog 105 0 = some 0 := by and_intros <;> kernel_rfl
theorem tt3 : iV prog 105 1 = some 1 ∧ iV prog 105 2 = some 2 ∧ iV prog 105 3 = some 3 ∧ iV prog 109 0 = some 0 ∧ iV prog 109 1 = some 1 ∧ iV prog 109 2 = some 2 ∧ iV prog 109 3 = some 3 ∧ iV prog 109 4 = some 4 ∧ iV prog 112 0 = some 0 ∧ iV prog 112 1 = some 1 ∧ iV prog 115 0 = some 0 ∧ iV prog 115 2 = some 2 ∧ iV prog 115 3 = some 4 ∧ iV prog 118 0 = some 0 ∧ iV prog 118 1 = some 1 ∧ iV prog 118 2 = some 3 ∧ iV prog 121 0 = some 0 ∧ iV prog 121 1 = some 1 ∧ iV prog 121 2 = some 2 ∧ iV prog 121 3 = some 3 ∧ iV prog 123 0 = some 0 ∧ iV prog 123 1 = some 1 ∧ iV prog 123 2 = some 2 ∧ iV prog 123 3 = some 3 ∧ iV prog 125 0 = some 0 ∧ iV prog 125 1 = some 1 ∧ iV prog 125 2 = some 2 ∧ iV prog 125 3 = some 3 ∧ iV prog 125 4 = some 4 ∧ iV prog 150 0 = some 0 ∧ iV prog 150 1 = some 1 ∧ iV prog 150 2 = some 2 ∧ iV prog 152 0 = some 0 ∧ iV prog 152 1 = some 1 ∧ iV prog 194 0 = some 0 ∧ iV prog 194 1 = some 1 ∧ iY prog 36 = some (.agg #[.string ⟨#[]⟩, .slice none 0 0, .slice none 0 0, .slice none 0 0]) ∧ jL prog 36 = none ∧ iY prog 41 = some (.agg #[.slice none 0 0, .int .u64 0, .int .u64 0]) ∧ jL prog 41 = none := by and_intros <;> kernel_rfl
theorem tt4 : iY prog 44 = some (.slice none 0 0) ∧ jL prog 44 = none ∧ iY prog 46 = some (.slice none 0 0) ∧ jL prog 46 = none ∧ iY prog 47 = some (.int .i64 0) ∧ jL prog 47 = none ∧ iY prog 52 = some (.agg #[.int .i64 0, .int .i64 0]) ∧ jL prog 52 = none ∧ iY prog 70 = some (.agg #[.int .i64 0, .int .i64 0]) ∧ jL prog 70 = none ∧ iY prog 88 = some (.agg #[.int .i64 0, .int .i64 0]) ∧ jL prog 88 = none ∧ iY prog 91 = some (.agg #[.string ⟨#[]⟩, .string ⟨#[]⟩, .int .i64 0, .int .i64 0, .int .i64 0, .slice none 0 0]) ∧ jL prog 91 = none ∧ iY prog 100 = some (.agg #[.int .u64 0, .int .u64 0]) ∧ jL prog 100 = none ∧ iY prog 105 = some (.agg #[.int .u8 0, .int .u8 0, .bool false, .slice none 0 0]) ∧ jL prog 105 = none ∧ iY prog 112 = some (.agg #[.int .i64 0, .int .i64 0]) ∧ jL prog 112 = none ∧ iY prog 115 = some (.agg #[.string ⟨#[]⟩, .bool false, .int .i64 0, .int .i64 0, .slice none 0 0]) ∧ jL prog 115 = none ∧ iY prog 118 = some (.agg #[.string ⟨#[]⟩, .int .i64 0, .int .i64 0, .slice none 0 0]) ∧ jL prog 118 = none ∧ iY prog 123 = some (.agg #[.int .u8 0, .int .u8 0, .int .i8 0, .bool false]) ∧ jL prog 123 = none ∧ iY prog 125 = some (.agg #[.string ⟨#[]⟩, .int .i64 0, .int .i64 0, .int .i64 0, .bool false]) ∧ jL prog 125 = none ∧ iY prog 150 = some (.agg #[.int .i64 0, .int .i64 0, .slice none 0 0]) ∧ jL prog 150 = none ∧ iY prog 152 = some (.agg #[.int .i64 0, .int .i64 0]) ∧ jL prog 152 = none ∧ iY prog 173 = some (.map none) ∧ jL prog 173 = none ∧ a0t prog 3 = some .i64 ∧ a0t prog 5 = some .u8 ∧ a0t prog 39 = some .u64 ∧ a0t prog 72 = some .u64 ∧ a0t prog 107 = some .i8 := by and_intros <;> kernel_rfl
def TS := (And.intro (And.intro (And.intro (And.intro (And.intro @tt0 (And.intro @tt1 @tt2)) (And.intro @tt3 (And.intro @tt4 @tS3))) (And.intro (And.intro @b8F (And.intro @b7W @c1k)) (And.intro (And.intro @c2B @c2S) (And.intro @b6V @oN)))) (And.intro (And.intro (And.intro @c4c (And.intro @b6G @sV)) (And.intro @c1e (And.intro @b6Y @c0Z))) (And.intro (And.intro @vO (And.intro @c1J @qO)) (And.intro (And.intro @yZ @b6y) (And.intro @xF @lB))))) (And.intro (And.intro (And.intro (And.intro @a9U (And.intro @b5m @sN)) (And.intro @b9m (And.intro @uX @vA))) (And.intro (And.intro @oC (And.intro @b4x @b0v)) (And.intro (And.intro @vD @a1W) (And.intro @a0h @b5F)))) (And.intro (And.intro (And.intro @b0a (And.intro @c0N @c5e)) (And.intro @c5v (And.intro @c2D @c1Z))) (And.intro (And.intro @c2n (And.intro @c1U @c2k)) (And.intro (And.intro @c1b @b9J) (And.intro @b9K @c0B))))))
def RZ := And.intro @RB (And.intro @RC @TS)
end Go.Ds
