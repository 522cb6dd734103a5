/-
  A part of the proof of DemandSums.
-/
import Derived.Test.YtfjdhdefmcfepaaGreatDoorVA
import Derived.Test.YtfjdhdefmcfepaaGreatDoorVB
import Derived.Test.YtfjdhdefmcfepaaGreatDoorProg
import Derived.KernelRfl
import Derived.Lib.LaidTab
import Derived.Stop.LaidErr
import Derived.Laws.Strings
set_option linter.unusedVariables false
set_option linter.unusedSimpArgs false
set_option linter.defProp false
set_option linter.unusedSectionVars false
namespace Go.Ds
noncomputable section
inductive Pth where
 | z
 | l (p : Pth)
 | r (p : Pth)
inductive Fr where
 | e
 | n (v : Value) (l r : Fr)
def a4s : Nat → Nat → Pth := fun f => Nat.rec (motive := fun _ => Nat → Pth) (fun _ => .z) (fun _ ih k => Nat.rec (motive := fun _ => Pth) .z (fun k _ => Bool.rec (motive := fun _ => Pth) (.r (ih (Nat.div k 2))) (.l (ih (Nat.div k 2))) (Nat.beq (Nat.mod k 2) 0)) k) f
def kR (k : Nat) : Pth := a4s k k
def nZ (p : Pth) : Fr → Value := Pth.rec (motive := fun _ => Fr → Value)
 (fun f => Fr.rec (motive := fun _ => Value) undef (fun v _ _ _ _ => v) f)
 (fun _ ih f => Fr.rec (motive := fun _ => Value) undef (fun _ l _ _ _ => ih l) f)
 (fun _ ih f => Fr.rec (motive := fun _ => Value) undef (fun _ _ r _ _ => ih r) f) p
def pV {α : Type} (v : Value) (p : Pth) : Fr → (Fr → α) → α := Pth.rec (motive := fun _ => Fr → (Fr → α) → α)
 (fun f K => Fr.rec (motive := fun _ => α) (K (.n v .e .e)) (fun _ l r _ _ => K (.n v l r)) f)
 (fun _ ih f K => Fr.rec (motive := fun _ => α) (ih .e fun l => K (.n undef l .e)) (fun w l r _ _ => ih l fun l => K (.n w l r)) f)
 (fun _ ih f K => Fr.rec (motive := fun _ => α) (ih .e fun r => K (.n undef .e r)) (fun w l r _ _ => ih r fun r => K (.n w l r)) f) p
def lL {α : Type} (p : Pth) : (Pth → α) → α := Pth.rec (motive := fun _ => (Pth → α) → α) (fun K => K .z) (fun _ ih K => ih fun p => K (.l p)) (fun _ ih K => ih fun p => K (.r p)) p
inductive LArg where
 | t (p : Pth)
 | c (v : Value)
def mL (f : Fr) (x : LArg) : Value := LArg.rec (motive := fun _ => Value) (fun p => nZ p f) (fun v => v) x
inductive Rs where
 | no
 | ok (v : Value) (H : Heap)
 | th (v : Value) (H : Heap)
def oO {α : Type} (v : Value) (K : Value → α) : α :=
 match v with
 | .bool b => K (.bool b)
 | .int k n => K (.int k n)
 | .string s => K (.string s)
 | .pointer a => K (.pointer a)
 | .slice a n c => K (.slice a n c)
 | .map r => K (.map r)
 | .func fn a b => K (.func fn a b)
 | .agg cs => K (.agg cs)
 | .tuple vs => K (.tuple vs)
 | v => K v
inductive LOp where
 | bad
 | mv (x : LArg)
 | pick (c a b : LArg)
 | bin (g : IntKind → Int → Int → Option Value) (x y : LArg)
 | not (x : LArg)
 | ld1 (x : LArg)
 | ldn (n : Nat) (x : LArg)
 | st (n : Nat) (x y : LArg)
 | fa (off : Nat) (x : LArg)
 | ixs (size : Nat) (x i : LArg)
 | ixa (n size : Nat) (x i : LArg)
 | ext (i : Nat) (x : LArg)
 | f1 (off : Nat) (x : LArg)
 | fn (off n : Nat) (x : LArg)
 | len (x : LArg)
 | slen (x : LArg)
 | app (elem size bytes : Nat) (x y : LArg)
 | alloc (t : TypeId) (cs : List Value)
 | callF (f : FuncId) (p : Pth) (args : List LArg)
 | callV (g : LArg) (args : List LArg)
 | gen (o : Oper)
inductive LOps where
 | nil
 | cons (d : Option Pth) (o : LOp) (rest : LOps)
 | gcons (p : Pth) (w : Bool) (d : Option Pth) (o : LOp) (rest : LOps)
inductive LCode where
 | bad
 | skip
 | reg (ops : LOps)
 | drw (ops : LOps) (tab : List (Nat × Option Nat × Option (Pth × Bool) × LOp))
 | seq (a b : LCode)
 | cond (c : LArg) (x y : LCode)
 | block (id : Nat) (b : LCode)
 | loop (b : LCode)
 | exit (id : Nat)
 | ret
 | range (g : LArg) (ps : List Pth) (pp : List Pth) (params : Array Tmp) (assign body : Code) (a b : LCode)
inductive LRes where
 | t (p : Pth)
 | c1 (p : Pth)
 | cn (n : Nat) (p : Pth)
structure LFunc where
 ps : List Pth
 body : LCode
 res : List LRes
inductive LT where
 | e
 | n (g : Option LFunc) (l r : LT)
def a2N (p : Pth) : LT → Option LFunc := Pth.rec (motive := fun _ => LT → Option LFunc)
 (fun f => LT.rec (motive := fun _ => Option LFunc) none (fun v _ _ _ _ => v) f)
 (fun _ ih f => LT.rec (motive := fun _ => Option LFunc) none (fun _ l _ _ _ => ih l) f)
 (fun _ ih f => LT.rec (motive := fun _ => Option LFunc) none (fun _ _ r _ _ => ih r) f) p
def sF {α : Type} (v : LFunc) (p : Pth) : LT → (LT → α) → α := Pth.rec (motive := fun _ => LT → (LT → α) → α)
 (fun f K => LT.rec (motive := fun _ => α) (K (.n (some v) .e .e)) (fun _ l r _ _ => K (.n (some v) l r)) f)
 (fun _ ih f K => LT.rec (motive := fun _ => α) (ih .e fun l => K (.n none l .e)) (fun w l r _ _ => ih l fun l => K (.n w l r)) f)
 (fun _ ih f K => LT.rec (motive := fun _ => α) (ih .e fun r => K (.n none .e r)) (fun w l r _ _ => ih r fun r => K (.n w l r)) f) p
structure LEnv where
 L : Nat
 ps : List Pth
 pp : List Pth
 a : LCode
 b : LCode
def b9j (P : Program) (o : Oper) (ρ : Operand → Value) (H : Heap) : Option (Value × Heap) :=
 if o.op.operands.toList.all (fun x => flat (ρ x)) then
  match iL P (execOp ρ o) with
  | some (.value v) => if flat v then some (v, H) else none
  | _ => none
 else none
def c2P (P : Program) (o : Oper) (ρ : Operand → Value) (H : Heap) : Option (Value × Heap) :=
 let keep (v : Option Value) : Option (Value × Heap) := v.map fun v => (v, H)
 let plain : Option (Value × Heap) := b9j P o ρ H
 match o.op with
 | .move x | .assign x => some (ρ x, H)
 | .pick c a b => match ρ c with | .bool t => some (if t then ρ a else ρ b, H) | _ => none
 | .alloc t => (jA P t).bind fun z => if jB z then qO P H t z else none
 | .box t x => wZ P H t (ρ x)
 | .build t parts =>
   let ps := parts.toList.map fun (i, x) => (i, ρ x)
   if (jA P t).any jB && ps.all (fun x => x.2.cells.toList.all oneCell) then
    (P.built t ps).map fun cs => (.agg cs, H)
   else none
 | .buildSlice t len parts =>
   (iJ P t).bind fun elem => (iF P elem).bind fun size => (jA P elem).bind fun z =>
   let ps := parts.toList.map fun (i, x) => (i, ρ x)
   if len == 0 && ps.isEmpty && size != 0 then some (.slice (some ⟨H.length, 0, some 0⟩) 0 size, rQ H elem []) else
   if jB z && ps.all (fun x => x.2.cells.toList.all oneCell) && len * size ≤ 2 ^ 24 && len * size != 0 && z.cells.size == size then
    (Instr.fill (fun i => some (i * size, size)) ((Array.range (len * size)).map (z.cells[· % z.cells.size]!)) ps).map fun cs =>
      (.slice (some ⟨H.length, 0, some cs.toList.length⟩) len size, rQ H elem cs.toList)
   else none
 | .makeSlice t n c =>
   (iJ P t).bind fun elem => (iF P elem).bind fun size => (nQ P elem).bind fun bytes => (jA P elem).bind fun z =>
   match ρ n, ρ c with
   | .int .i64 a, .int .i64 b =>
     if jB z && decide (a ≤ b) && 0 ≤ a && b * (bytes + 1) ≤ (oX : Int) && size != 0 && z.cells.size == size then
      let cs := if size = 1 then List.replicate b.toNat (z.cells[0]!) else (madeCells z.cells (b.toNat * size)).toList
      some (.slice (some ⟨H.length, 0, some cs.length⟩) a.toNat size, rQ H elem cs)
     else none
   | _, _ => none
 | .load t a => keep (lO P H t (ρ a))
 | .store t a x => (qY P H t (ρ a) (ρ x)).map fun H => (undef, H)
 | .nilCheck x => match ρ x with
   | .pointer (some a) => some (.pointer (some a), H)
   | .func (.func f) a b => some (.func (.func f) a b, H)
   | _ => none
 | .fieldAddr s x f => match ρ x with
   | .pointer (some ⟨A, i, some e⟩) => (oH P s f).bind fun fd => (iF P fd.type).bind fun n => if n == 0 then none else some (.pointer (some ⟨A, i + fd.offset, some e⟩), H)
   | _ => none
 | .indexAddr t x ix => match P.underlying t, ρ x, ρ ix with
   | some (.slice elem), .slice (some ⟨A, i, some e⟩) n _, .int _ j => (iF P elem).bind fun size =>
     if 0 ≤ j && j < n then some (.pointer (some ⟨A, i + j.toNat * size, some e⟩), H) else none
   | some (.array n elem), .pointer (some ⟨A, i, some e⟩), .int _ j => (iF P elem).bind fun size =>
     if 0 ≤ j && j < n then some (.pointer (some ⟨A, i + j.toNat * size, some e⟩), H) else none
   | some (.array n elem), .pointer (some ⟨A, i, none⟩), .int _ j => (iF P elem).bind fun size =>
     if 0 ≤ j && j < n then some (.pointer (some ⟨A, i + j.toNat * size, none⟩), H) else none
   | _, _, _ => none
 | .slice t x lo hi none => if flat (ρ x) then plain else match jS P t with
   | some (n, elem) => keep (a5e P H n elem (ρ x) (lo.map ρ) (hi.map ρ))
   | none => keep (wS P t (ρ x) (lo.map ρ) (hi.map ρ))
 | .field t x f => if flat (ρ x) then plain else
   match ρ x with
   | .agg cs => (oH P t f).bind fun fd => match jR P fd.type with
     | some true => (iF P fd.type).map fun n => (.agg (cs.extract fd.offset (fd.offset + n)), H)
     | some false => (cs[fd.offset]?).map fun v => (v, H)
     | none => none
   | _ => none
 | .extract t i => match ρ t with
   | .tuple vs => (vs[i]?).map fun v => (v, H)
   | _ => none
 | .makeFunc fn first captured => match fn with
   | .func f => if (first ++ captured).toList.all (fun x => pR (ρ x)) then some (.func (.func f) (first.map ρ) (captured.map ρ), H) else none
   | _ => none
 | .binOp op t x y _ => match op, ρ x, ρ y with
   | .eql, .slice (some _) _ _, .slice none 0 0 => if ((P.underlying t).map vM) == some true then some (.bool false, H) else none
   | .neq, .slice (some _) _ _, .slice none 0 0 => if ((P.underlying t).map vM) == some true then some (.bool true, H) else none
   | op, .int k a, .int k' b => if k = k' then (match mM op k a b with | some v => some (v, H) | none => plain) else plain
   | .eql, .pointer (some _), .pointer none => if tL P t then some (.bool false, H) else none
   | .neq, .pointer (some _), .pointer none => if tL P t then some (.bool true, H) else none
   | .eql, .pointer (some ⟨A, i, some e⟩), .pointer (some ⟨A', i', some e'⟩) => if tL P t && A == A' && i == i' && e == e' then some (.bool true, H) else none
   | .neq, .pointer (some ⟨A, i, some e⟩), .pointer (some ⟨A', i', some e'⟩) => if tL P t && A == A' && i == i' && e == e' then some (.bool false, H) else none
   | _, _, _ => plain
 | .call c => match c.callee with
   | .builtin .len => if c.args.size == 1 && c.argTypes.size == 1 then
      match (P.underlying (c.argTypes.getD 0 0)), ρ (c.args.getD 0 (.tmp 0)) with
      | some (.slice _), .slice a n k => keep (wP H (.slice a n k))
      | some .string, .string s => keep (wP H (.string s))
      | some (.map _ _), .map r => keep (wP H (.map r))
      | _, _ => none
     else none
   | .builtin .append => if c.args.size == 2 && c.argTypes.size == 2 && ((P.underlying (c.argTypes.getD 1 0)).map pU) == some true then
      nK P H (c.argTypes.getD 0 0) (ρ (c.args.getD 0 (.tmp 0))) (ρ (c.args.getD 1 (.tmp 0)))
     else none
   | .builtin .copy => if c.args.size == 2 && c.argTypes.size == 2 then a0B P H (c.argTypes.getD 0 0) (ρ (c.args.getD 0 (.tmp 0))) (ρ (c.args.getD 1 (.tmp 0))) else none
   | .builtin .clear => if c.args.size == 1 && c.argTypes.size == 1 then sU P H (c.argTypes.getD 0 0) (ρ (c.args.getD 0 (.tmp 0))) else none
   | .builtin .cap => plain
   | .builtin .unsafeSliceData => if c.args.size == 1 && c.argTypes.size == 1 then match ρ (c.args.getD 0 (.tmp 0)) with
      | .slice (some a) n _ => if n == 0 then none else some (.pointer (some a), H)
      | _ => none
     else none
   | .builtin .unsafeString => if c.args.size == 2 && c.argTypes.size == 2 then vO P H (c.argTypes.getD 0 0) (ρ (c.args.getD 0 (.tmp 0))) (ρ (c.args.getD 1 (.tmp 0))) else none
   | .builtin .max => plain
   | .builtin .min => plain
   | _ => none
 | .unOp op _ x => match op, ρ x with
   | .not, .bool b => some (.bool (!b), H)
   | _, _ => plain
 | .makeMap t r => pM P H t (r.map ρ)
 | .lookup t x k c => keep (pJ P H t (ρ x) (ρ k) c)
 | .mapUpdate t m k v => (a0U P H t (ρ m) (ρ k) (ρ v)).map fun H => (undef, H)
 | .mapEntry t m k => tE P H t (ρ m) (ρ k)
 | .entryStore _ m b v => (rS H (ρ m) (ρ b) (ρ v)).map fun H => (undef, H)
 | .convert s t x => if flat (ρ x) && !(lB P t) then plain else match ρ x with
   | .slice (some ⟨A, i, some e⟩) n _ => if lB P s && oF P t then keep ((jC H A i e n).bind fun l => (nG l).map .string) else none
   | .string b => if lB P t && oF P s && b.size ≤ 2 ^ 40 then (iJ P t).bind fun elem => some (.slice (some ⟨H.length, 0, some b.size⟩) b.size 1, b6H H elem (b.data.toList.map fun c => .int .u8 c.toNat)) else none
   | .pointer (some ⟨A, 0, some e⟩) => if a3Z P H s t A e then some (.pointer (some ⟨A, 0, some e⟩), H) else none
   | _ => none
 | .index _ _ _ => plain
 | .makeInterface _ _ => plain
 | _ => none
def nY {α : Type} (b : Bool) (no : α) (x : α) : α := Bool.rec (motive := fun _ => α) no x b
def a8a {α : Type} (cs : List α) : Nat → Bool := List.rec (motive := fun _ => Nat → Bool) (fun e => Nat.beq e 0) (fun _ _ ih e => Nat.rec (motive := fun _ => Bool) true (fun m _ => ih m) e) cs
def a3H {α : Type} (cs : List α) : Nat → Bool := List.rec (motive := fun _ => Nat → Bool) (fun e => Nat.beq e 0) (fun _ _ ih e => Nat.rec (motive := fun _ => Bool) false (fun m _ => ih m) e) cs
def a0V {α : Type} (cs : List α) : Nat → Option α := List.rec (motive := fun _ => Nat → Option α) (fun _ => none) (fun v _ ih e => Nat.rec (motive := fun _ => Option α) (some v) (fun m _ => ih m) e) cs
def a2z {α : Type} (cs : List α) : Nat → (List α → Rs) → Rs := List.rec (motive := fun _ => Nat → (List α → Rs) → Rs) (fun n K => Nat.rec (motive := fun _ => Rs) (K []) (fun _ _ => .no) n) (fun v _ ih n K => Nat.rec (motive := fun _ => Rs) (K []) (fun m _ => ih m fun l => K (v :: l)) n) cs
def b1g {α : Type} (cs : List α) : Nat → List α := List.rec (motive := fun _ => Nat → List α) (fun _ => []) (fun v t ih n => Nat.rec (motive := fun _ => List α) (v :: t) (fun m _ => ih m) n) cs
def kIx (k : IntKind) : Nat := IntKind.rec (motive := fun _ => Nat) 0 1 2 3 4 5 6 7 k
def hMv (x : LArg) (f : Fr) (H : Heap) : Rs := oO (mL f x) fun v => .ok v H
def b4A (c a b : LArg) (f : Fr) (H : Heap) : Rs := match mL f c with
 | .bool t => oO (mL f (Bool.rec (motive := fun _ => LArg) b a t)) fun v => .ok v H
 | _ => .no
def oV (v : Option Value) (H : Heap) : Rs := Option.rec (motive := fun _ => Rs) .no (fun v => .th v H) v
def b9Z (g : IntKind → Int → Int → Option Value) (k : IntKind) (a : Int) (H : Heap) (y : Value) : Rs := match y with
 | .int k' b => nY (Nat.beq (kIx k) (kIx k')) .no (oV (g k a b) H)
 | _ => .no
def c1m (g : IntKind → Int → Int → Option Value) (x y : LArg) (f : Fr) (H : Heap) : Rs := match mL f x with
 | .int k a => b9Z g k a H (mL f y)
 | _ => .no
def c5S (x : LArg) (f : Fr) (H : Heap) : Rs := match mL f x with
 | .bool b => .ok (.bool (Bool.rec (motive := fun _ => Bool) true false b)) H
 | _ => .no
def b7Q (b : Option Blk) (i e : Nat) (H : Heap) : Rs := match b with
 | some (.cells cs _ _ lo _) => nY (Nat.ble lo e) .no (nY (a8a cs e) .no (nY (Nat.ble (Nat.succ i) e) .no (Option.rec (motive := fun _ => Rs) .no (fun v => oO v fun v => .ok v H) (a0V cs i))))
 | _ => .no
def c0Q (b : Option Blk) (i : Nat) (H : Heap) : Rs := match b with
 | some (.cells cs _ false lo 1) => nY (a8a cs lo) .no (Option.rec (motive := fun _ => Rs) .no (fun v => oO v fun v => .ok v H) (a0V cs i))
 | _ => .no
def b3k (x : LArg) (f : Fr) (H : Heap) : Rs := match mL f x with
 | .pointer (some ⟨A, i, some e⟩) => b7Q (iQ H A) i e H
 | .pointer (some ⟨A, i, none⟩) => c0Q (iQ H A) i H
 | _ => .no
def b9x (b : Option Blk) (n i e : Nat) (H : Heap) : Rs := match b with
 | some (.cells cs _ _ lo _) => nY (Nat.ble lo e) .no (nY (a8a cs e) .no (nY (Nat.ble (Nat.add i n) e) .no (a2z (b1g cs i) n fun l => .ok (.agg ⟨l⟩) H)))
 | _ => .no
def b3u (n : Nat) (x : LArg) (f : Fr) (H : Heap) : Rs := match mL f x with
 | .pointer (some ⟨A, i, some e⟩) => b9x (iQ H A) n i e H
 | _ => .no
def stB (b : Option Blk) (n A i e : Nat) (vs : List Value) (H : Heap) : Rs := match b with
 | some (.cells cs ty true lo ver) => nY (a3H vs n) .no (nY (vs.all oneCell) .no (nY (a3H cs e) .no (nY (Nat.ble (Nat.add i n) e) .no (nY (Nat.ble lo e) .no
    (.th undef (hset H A (.cells (iZ cs i vs) ty true e ver)))))))
 | _ => .no
def hSt (n : Nat) (x y : LArg) (f : Fr) (H : Heap) : Rs := match mL f x with
 | .pointer (some ⟨A, i, some e⟩) => stB (iQ H A) n A i e (mL f y).cells.toList H
 | _ => .no
def hFa (off : Nat) (x : LArg) (f : Fr) (H : Heap) : Rs := match mL f x with
 | .pointer (some ⟨A, i, some e⟩) => kF (Nat.add i off) fun i => .ok (.pointer (some ⟨A, i, some e⟩)) H
 | _ => .no
def ixP (A i e size n : Nat) (H : Heap) (j : Value) : Rs := match j with
 | .int _ (.ofNat j) => nY (Nat.blt j n) .no (kF (Nat.add i (Nat.mul j size)) fun i => .ok (.pointer (some ⟨A, i, some e⟩)) H)
 | _ => .no
def c1N (size : Nat) (x i : LArg) (f : Fr) (H : Heap) : Rs := match mL f x with
 | .slice (some ⟨A, a, some e⟩) n _ => ixP A a e size n H (mL f i)
 | _ => .no
def ixG (A i size n : Nat) (H : Heap) (j : Value) : Rs := match j with
 | .int _ (.ofNat j) => nY (Nat.blt j n) .no (kF (Nat.add i (Nat.mul j size)) fun i => .ok (.pointer (some ⟨A, i, none⟩)) H)
 | _ => .no
def c2H (n size : Nat) (x i : LArg) (f : Fr) (H : Heap) : Rs := match mL f x with
 | .pointer (some ⟨A, a, some e⟩) => ixP A a e size n H (mL f i)
 | .pointer (some ⟨A, a, none⟩) => ixG A a size n H (mL f i)
 | _ => .no
def okV (v : Option Value) (H : Heap) : Rs := Option.rec (motive := fun _ => Rs) .no (fun v => oO v fun v => .ok v H) v
def c2I (i : Nat) (x : LArg) (f : Fr) (H : Heap) : Rs := match mL f x with
 | .tuple ⟨vs⟩ => okV (a0V vs i) H
 | _ => .no
def hF1 (off : Nat) (x : LArg) (f : Fr) (H : Heap) : Rs := match mL f x with
 | .agg ⟨cs⟩ => okV (a0V cs off) H
 | _ => .no
def hFn (off n : Nat) (x : LArg) (f : Fr) (H : Heap) : Rs := match mL f x with
 | .agg ⟨cs⟩ => a2z (b1g cs off) n fun l => .ok (.agg ⟨l⟩) H
 | _ => .no
def c1u (x : LArg) (f : Fr) (H : Heap) : Rs := match mL f x with
 | .slice _ n _ => .th (goInt n) H
 | _ => .no
def b6B (x : LArg) (f : Fr) (H : Heap) : Rs := match mL f x with
 | .string s => .th (goInt s.size) H
 | _ => .no
def c4Q (b : Option Blk) (elem size bytes A i e k : Nat) (n : Nat) (l : List Value) (P : Program) (H : Heap) : Rs := match b with
 | some (.cells cs ty true lo ver) => nY (Bool.rec (motive := fun _ => Bool) (iF P ty == some size) true (Nat.beq ty elem)) .no (nY (a3H cs e) .no (nY (Nat.ble lo e) .no
    (nY (Nat.beq (Nat.add i (Nat.mul k size)) e)
      (nY (Nat.beq n 0) (nY (Nat.ble (Nat.add i (Nat.mul (Nat.add k n) size)) e) .no (.th (.slice (some ⟨A, i, some e⟩) (k + n) size) (hset H A (.cells (iZ cs (i + k * size) l) ty true e ver)))) .no)
      (nY (Nat.ble (Nat.mul (Nat.add k n) (Nat.succ bytes)) oX) .no (.th (.slice (some ⟨A, i, some (e + l.length)⟩) (k + n) size) (hset H A (.cells (a4E cs l) ty true lo (Bool.rec (motive := fun _ => Nat) 2 ver (Nat.beq ty elem)))))))))
 | _ => .no
def c3K (P : Program) (elem size bytes : Nat) (s : Value) (H : Heap) (n : Nat) (l : List Value) : Rs := match s with
 | .slice none k c => nY (Nat.beq k 0) .no (nY (Nat.beq c 0) .no (nY (Nat.ble (Nat.mul n (Nat.succ bytes)) oX) .no (nY (Nat.beq n 0) (.th (.slice (some ⟨H.length, 0, some l.length⟩) n size) (rQ H elem l)) (.ok (.slice none 0 0) H))))
 | .slice (some ⟨A, i, some e⟩) k _ => c4Q (iQ H A) elem size bytes A i e k n l P H
 | _ => .no
def c2Q (P : Program) (elem size bytes : Nat) (x y : LArg) (f : Fr) (H : Heap) : Rs := match zY H size (mL f y) with
 | some (n, l) => c3K P elem size bytes (mL f x) H n l
 | none => .no
def c1Q (t : TypeId) (cs : List Value) (_ : Fr) (H : Heap) : Rs := .th (.pointer (some ⟨H.length, 0, some cs.length⟩)) (rQ H t cs)
def evF (f : Fr) : Operand → Value
 | .tmp t => nZ (kR t) f
 | .const v => v
 | .global g => .pointer (some ⟨g, 0, none⟩)
 | .func k => .func (.func k) #[] #[]
def c6K (P : Program) (o : Oper) (f : Fr) (H : Heap) : Rs := match c2P P o (evF f) H with
 | some (v, H1) => .th v H1
 | none => .no
def a3W {α : Type} (f : Fr) (l : List LArg) : (List Value → α) → α := List.rec (motive := fun _ => (List Value → α) → α) (fun K => K []) (fun x _ ih K => oO (mL f x) fun v => ih fun l => K (v :: l)) l
structure Calls' where
 fn : Pth → FuncId → List Value → Heap → Rs
 rd : Nat → List Value → Heap → Rs
def c1S (C : Calls') (k : FuncId) (p : Pth) (args : List LArg) (f : Fr) (H : Heap) : Rs := a3W f args fun l => C.fn p k l H
def a9Y (C : Calls') (l : List Value) (H : Heap) (g : Value) : Rs := match g with
 | .func (.func k) ⟨a⟩ ⟨b⟩ => kF k fun k => lL (kR k) fun p => C.fn p k (a4E a (a4E l b)) H
 | .func (.yield L) _ _ => C.rd L l H
 | _ => .no
def c1q (C : Calls') (g : LArg) (args : List LArg) (f : Fr) (H : Heap) : Rs := a3W f args fun l => a9Y C l H (mL f g)
def c6w (_ : Fr) (_ : Heap) : Rs := .no
def opF (P : Program) (C : Calls') (o : LOp) : Fr → Heap → Rs :=
 LOp.rec (motive := fun _ => Fr → Heap → Rs) c6w hMv b4A c1m c5S b3k b3u hSt hFa c1N c2H c2I hF1 hFn c1u b6B (c2Q P) c1Q (c1S C) (c1q C) (c6K P) o
inductive Rf where
 | no
 | ok (f : Fr) (H : Heap)
def uH {α : Type} (d : Option Pth) (v : Value) (f : Fr) (K : Fr → α) : α := Option.rec (motive := fun _ => α) (K f) (fun p => pV v p f K) d
def b0N {α : Type} (no : α) (d : Option Pth) (f : Fr) (K : Fr → Heap → α) (r : Rs) : α :=
 Rs.rec (motive := fun _ => α) no (fun v H => uH d v f fun f => K f H) (fun v H => yB v fun v => nR H fun H => uH d v f fun f => K f H) r
def isB (v : Value) (w : Bool) : Bool := match v with
 | .bool b => Bool.rec (motive := fun _ => Bool) (Bool.rec (motive := fun _ => Bool) true false w) w b
 | _ => false
def zG (P : Program) (C : Calls') (ops : LOps) : Fr → Heap → Rf := LOps.rec (motive := fun _ => Fr → Heap → Rf)
 (fun f H => .ok f H)
 (fun d o _ ih f H => b0N .no d f ih (opF P C o f H))
 (fun p w d o _ ih f H => nY (isB (nZ p f) w) (uH d undef f fun f => ih f H) (b0N .no d f ih (opF P C o f H))) ops
inductive Rt where
 | no
 | ok (tr : List (Fr × Heap × Value)) (f : Fr) (H : Heap)
def b1a (tr : List (Fr × Heap × Value)) (f0 : Fr) (H0 : Heap) (d : Option Pth) (K : List (Fr × Heap × Value) → Fr → Heap → Rt) (r : Rs) : Rt :=
 Rs.rec (motive := fun _ => Rt) .no (fun v H => uH d v f0 fun f => K ((f0, H0, v) :: tr) f H) (fun v H => yB v fun v => nR H fun H => uH d v f0 fun f => K ((f0, H0, v) :: tr) f H) r
def rD (P : Program) (C : Calls') (ops : LOps) : List (Fr × Heap × Value) → Fr → Heap → Rt := LOps.rec (motive := fun _ => List (Fr × Heap × Value) → Fr → Heap → Rt)
 (fun tr f H => .ok tr f H)
 (fun d o _ ih tr f H => b1a tr f H d ih (opF P C o f H))
 (fun p w d o _ ih tr f H => nY (isB (nZ p f) w) (uH d undef f fun f1 => ih ((f, H, undef) :: tr) f1 H) (b1a tr f H d ih (opF P C o f H))) ops
def b7N (v : Value) (r : Rs) : Bool := Rs.rec (motive := fun _ => Bool) false (fun w _ => veq w v) (fun w _ => veq w v) r
def b4S (f : Fr) (g : Option (Pth × Bool)) : Bool := match g with
 | none => true
 | some (p, w) => isB (nZ p f) w
def b5e (P : Program) (C : Calls') (tr : List (Fr × Heap × Value)) (H1 : Heap) (x : Nat × Option Nat × Option (Pth × Bool) × LOp) : Bool :=
 match a0V tr x.1 with
 | some (f, _, v) => nY (b4S f x.2.2.1) true (match x.2.1 with
   | none => b7N v (opF P C x.2.2.2 f H1)
   | some m => match a0V tr m with
     | some (_, H, _) => b7N v (opF P C x.2.2.2 f H)
     | none => false)
 | none => false
def b5N {α : Type} (p : α → Bool) (l : List α) : Bool := List.rec (motive := fun _ => Bool) true (fun x _ ih => nY (p x) false ih) l
inductive Rc where
 | no
 | ok (e : Ex) (f : Fr) (H : Heap)
def c4a (r : Rf) : Rc := Rf.rec (motive := fun _ => Rc) .no (fun f H => .ok .normal f H) r
def c0g (P : Program) (C : Calls') (tab : List (Nat × Option Nat × Option (Pth × Bool) × LOp)) (r : Rt) : Rc := Rt.rec (motive := fun _ => Rc) .no (fun tr f H => nY (b5N (b5e P C tr H) tab) .no (.ok .normal f H)) r
def pA {α : Type} (no : α) (l : List Value) : List Pth → Fr → (Fr → α) → α := List.rec (motive := fun _ => List Pth → Fr → (Fr → α) → α) (fun _ f K => K f)
 (fun v _ ih ps f K => List.rec (motive := fun _ => α) no (fun p ps _ => pV v p f fun f => ih ps f K) ps) l
def a4h (H : Heap) (f : Fr) (r : LRes) : Rs := LRes.rec (motive := fun _ => Rs) (fun p => oO (nZ p f) fun v => .ok v H) (fun p => b3k (.t p) f H) (fun n p => b3u n (.t p) f H) r
def b6h (H : Heap) (f : Fr) (l : List LRes) : (List Value → Rs) → Rs := List.rec (motive := fun _ => (List Value → Rs) → Rs) (fun K => K []) (fun r _ ih K => Rs.rec (motive := fun _ => Rs) .no (fun v _ => ih fun l => K (v :: l)) (fun _ _ => .no) (a4h H f r)) l
def noT (v : Value) : Bool := match v with | .tuple _ => false | _ => true
def a7t (l : List LRes) (f : Fr) (H : Heap) : Rs := match l with
 | [r] => a4h H f r
 | l => b6h H f l fun vs => nY (b5N noT vs) .no (.ok (.tuple ⟨vs⟩) H)
def c2L (l : List LRes) (r : Rc) : Rs := match r with
 | .ok .normal f H => a7t l f H
 | .ok .ret f H => a7t l f H
 | _ => .no
abbrev pY := List LEnv → LCode → Fr → Heap → Rc
def c1e (P : Program) (k : FuncId) (args : List Value) (H : Heap) : Rs := match qC P k args H with
 | some (v, H1) => .th v H1
 | none => .no
def mT (T : LT) (ih : pY) (E : List LEnv) (p : Pth) (args : List Value) (H : Heap) : Rs := match a2N p T with
 | some g => pA .no args g.ps .e fun f => c2L g.res (ih E g.body f H)
 | none => .no
def b6Z (P : Program) (T : LT) (ih : pY) (E : List LEnv) (p : Pth) (k : FuncId) (args : List Value) (H : Heap) : Rs := match a2N p T with
 | some g => pA .no args g.ps .e fun f => c2L g.res (ih E g.body f H)
 | none => c1e P k args H
def b3X (E : List LEnv) (L : Nat) : Option LEnv := List.rec (motive := fun _ => Option LEnv) none (fun e _ ih => nY (Nat.beq e.L L) ih (some e)) E
def c0D (e : Ex) : Option Code := match e with | .normal => none | .ret => some .ret | .exit id => some (.exit id)
def a2M (L : Nat) (e : Ex) (H : Heap) : Rs := match iQ H L with
 | some (.loop ⟨_, _, fn, tmps, ps, a, b, d⟩) => match c0D e with
   | none => .th (.bool true) (hset H L (.loop ⟨.ready, none, fn, tmps, ps, a, b, d⟩))
   | some c => .th (.bool false) (hset H L (.loop ⟨.done, some c, fn, tmps, ps, a, b, d⟩))
 | _ => .no
def b2x (L : Nat) (r : Rc) : Rs := match r with
 | .ok e _ H => a2M L e H
 | .no => .no
def a0w (ih : pY) (E : List LEnv) (en : LEnv) (f : Fr) (H : Heap) : Rs := match iQ H en.L with
 | some (.loop ⟨.ready, p, fn, tmps, ps, a, b, d⟩) => nR (hset H en.L (.loop ⟨.busy, p, fn, tmps, ps, a, b, d⟩)) fun H => b2x en.L (ih E en.b f H)
 | _ => .no
def sV (ih : pY) (E : List LEnv) (en : LEnv) (r : Rc) : Rs := match r with
 | .ok .normal f H => a0w ih E en f H
 | _ => .no
def a8v (ih : pY) (E : List LEnv) (L : Nat) (args : List Value) (H : Heap) : Rs := match b3X E L with
 | some en => match iQ H L with
   | some (.loop ⟨.ready, _, _, ⟨tmps⟩, ps, _, _, _⟩) => nY (a3H args ps.size) .no (pA .no tmps en.ps .e fun f => pA .no args en.pp f fun f => sV ih E en (ih E en.a f H))
   | _ => .no
 | none => .no
def a0z (P : Program) (T : LT) (ih : pY) (E : List LEnv) : Calls' := ⟨b6Z P T ih E, a8v ih E⟩
def c6A (_ : Fr) (_ : Heap) : Rc := .no
def c5p (f : Fr) (H : Heap) : Rc := .ok .normal f H
def c6W (P : Program) (T : LT) (ih : pY) (E : List LEnv) (ops : LOps) (f : Fr) (H : Heap) : Rc := c4a (zG P (a0z P T ih E) ops f H)
def c6j (P : Program) (T : LT) (ih : pY) (E : List LEnv) (ops : LOps) (tab : List (Nat × Option Nat × Option (Pth × Bool) × LOp)) (f : Fr) (H : Heap) : Rc := c0g P (a0z P T ih E) tab (rD P (a0z P T ih E) ops [] f H)
def b7W (ih : pY) (E : List LEnv) (b : LCode) (r : Rc) : Rc := match r with
 | .ok .normal f H => ih E b f H
 | r => r
def c7c (ih : pY) (E : List LEnv) (a b : LCode) (_ _ : Fr → Heap → Rc) (f : Fr) (H : Heap) : Rc := b7W ih E b (ih E a f H)
def b5R (ih : pY) (E : List LEnv) (c : LArg) (x y : LCode) (_ _ : Fr → Heap → Rc) (f : Fr) (H : Heap) : Rc := match mL f c with
 | .bool t => ih E (Bool.rec (motive := fun _ => LCode) y x t) f H
 | _ => .no
def c5A (id : Nat) (r : Rc) : Rc := match r with
 | .ok (.exit i) f H => .ok (Bool.rec (motive := fun _ => Ex) (.exit i) .normal (Nat.beq i id)) f H
 | r => r
def c2S (ih : pY) (E : List LEnv) (id : Nat) (b : LCode) (_ : Fr → Heap → Rc) (f : Fr) (H : Heap) : Rc := c5A id (ih E b f H)
def c4m (ih : pY) (E : List LEnv) (b : LCode) (_ : Fr → Heap → Rc) (f : Fr) (H : Heap) : Rc := b7W ih E (.loop b) (ih E b f H)
def c3m (id : Nat) (f : Fr) (H : Heap) : Rc := .ok (.exit id) f H
def c5K (f : Fr) (H : Heap) : Rc := .ok .ret f H
def frL {α : Type} (f : Fr) (ps : List Pth) : (List Value → α) → α := List.rec (motive := fun _ => (List Value → α) → α) (fun K => K []) (fun p _ ih K => oO (nZ p f) fun v => ih fun l => K (v :: l)) ps
def uC (L : Nat) (f : Fr) (H : Heap) : Rc := match iQ H L with
 | some (.loop ⟨.ready, none, fn, tmps, ps, a, b, d⟩) => nR (hset H L (.loop ⟨.exhausted, none, fn, tmps, ps, a, b, d⟩)) fun H => .ok .normal f H
 | some (.loop ⟨.done, none, fn, tmps, ps, a, b, d⟩) => nR (hset H L (.loop ⟨.exhausted, none, fn, tmps, ps, a, b, d⟩)) fun H => .ok .normal f H
 | some (.loop ⟨.done, some .ret, fn, tmps, ps, a, b, d⟩) => nR (hset H L (.loop ⟨.exhausted, some .ret, fn, tmps, ps, a, b, d⟩)) fun H => .ok .ret f H
 | some (.loop ⟨.done, some (.exit id), fn, tmps, ps, a, b, d⟩) => nR (hset H L (.loop ⟨.exhausted, some (.exit id), fn, tmps, ps, a, b, d⟩)) fun H => .ok (.exit id) f H
 | _ => .no
def b1B (L : Nat) (f : Fr) (r : Rs) : Rc := match r with
 | .no => .no
 | .ok _ H => uC L f H
 | .th _ H => nR H fun H => uC L f H
def b0H (T : LT) (ih : pY) (E : List LEnv) (f : Fr) (L : Nat) (k : FuncId) (args : List Value) (H : Heap) : Rc := lL (kR k) fun p => b1B L f (mT T ih E p args H)
def a8h (T : LT) (ih : pY) (E : List LEnv) (g : LArg) (ps pp : List Pth) (params : Array Tmp) (assign body : Code) (a b : LCode) (_ _ : Fr → Heap → Rc) (f : Fr) (H : Heap) : Rc := match mL f g with
 | .func (.func k) ⟨x⟩ ⟨y⟩ => kF H.length fun L => frL f ps fun l => nR (H.cons (.loop ⟨.ready, none, 0, ⟨l⟩, params, assign, body, 0⟩)) fun H1 =>
    kF k fun k => b0H T ih (⟨L, ps, pp, a, b⟩ :: E) f L k (a4E x (.func (.yield L) #[] #[] :: y)) H1
 | _ => .no
def b0E (P : Program) (T : LT) (ih : pY) (E : List LEnv) (c : LCode) : Fr → Heap → Rc :=
 LCode.rec (motive := fun _ => Fr → Heap → Rc) c6A c5p (c6W P T ih E) (c6j P T ih E) (c7c ih E) (b5R ih E) (c2S ih E) (c4m ih E) c3m c5K (a8h T ih E) c
def exF (P : Program) (T : LT) (n : Nat) : pY := Nat.rec (motive := fun _ => pY) (fun _ _ _ _ => .no) (fun _ ih => b0E P T ih) n
section
variable {α : Type}
def lP (x : Operand) (K : LArg → α) : α := match x with
 | .tmp t => lL (kR t) fun p => K (.t p)
 | .const v => K (.c v)
 | .global g => K (.c (.pointer (some ⟨g, 0, none⟩)))
 | .func k => K (.c (.func (.func k) #[] #[]))
def a5g (l : List Operand) : (List LArg → α) → α := List.rec (motive := fun _ => (List LArg → α) → α) (fun K => K []) (fun x _ ih K => lP x fun x => ih fun l => K (x :: l)) l
def a2S (o : Option Nat) (d : α) (K : Nat → α) : α := match o with
 | some n => kF n K
 | none => d
def c5Y (k : IntKind) (a b : Int) : Option Value := some (.int k (wE k (b7K a b)))
def c6O (k : IntKind) (a b : Int) : Option Value := some (.int k (wE k (b8D a b)))
def c3C (a b : Int) : Int := match a, b with
 | .ofNat a, .ofNat b => .ofNat (Nat.mul a b)
 | a, b => a * b
def c5v (k : IntKind) (a b : Int) : Option Value := some (.int k (wE k (c3C a b)))
def c3o (a b : Int) : Int := match a, b with
 | .ofNat a, .ofNat b => .ofNat (Nat.div a b)
 | a, b => a.tdiv b
def c3s (a b : Int) : Int := match a, b with
 | .ofNat a, .ofNat b => .ofNat (Nat.mod a b)
 | a, b => a.tmod b
def b8U (k : IntKind) (a b : Int) : Option Value := match eqI b 0 with | true => none | false => some (.int k (wE k (c3o a b)))
def b8t (k : IntKind) (a b : Int) : Option Value := match eqI b 0 with | true => none | false => some (.int k (c3s a b))
def c6o (_ : IntKind) (a b : Int) : Option Value := some (.bool (eqI a b))
def c6s (_ : IntKind) (a b : Int) : Option Value := some (.bool (!eqI a b))
def c6f (_ : IntKind) (a b : Int) : Option Value := some (.bool (ltI a b))
def c6v (_ : IntKind) (a b : Int) : Option Value := some (.bool (!ltI b a))
def c6N (_ : IntKind) (a b : Int) : Option Value := some (.bool (ltI b a))
def c6r (_ : IntKind) (a b : Int) : Option Value := some (.bool (!ltI a b))
def b9W (op : BinOp) : Option (IntKind → Int → Int → Option Value) := match op with
 | .add => some c5Y
 | .sub => some c6O
 | .mul => some c5v
 | .quo => some b8U
 | .rem => some b8t
 | .eql => some c6o
 | .neq => some c6s
 | .lss => some c6f
 | .leq => some c6v
 | .gtr => some c6N
 | .geq => some c6r
 | _ => none
def c1Y (d : Option TypeDesc) : Bool := match d with | some (.int _) => true | _ => false
def c7h (P : Program) (s : TypeId) (f : Nat) (d : α) (K1 : Nat → α) (Kn : Nat → Nat → α) : α := match oH P s f with
 | some fd => kF fd.offset fun off => match jR P fd.type with
   | some true => a2S (iF P fd.type) d fun n => Kn off n
   | some false => K1 off
   | none => d
 | none => d
def b6R (P : Program) (o : Oper) (c : Call) (K : LOp → α) : α := match c.callee with
 | .value (.func k) => lL (kR k) fun p => a5g c.args.toList fun l => K (.callF k p l)
 | .value g => lP g fun g => a5g c.args.toList fun l => K (.callV g l)
 | .builtin .len => nY (c.args.size == 1 && c.argTypes.size == 1) (K (.gen o)) (match P.underlying (c.argTypes.getD 0 0) with
    | some (.slice _) => lP (c.args.getD 0 (.tmp 0)) fun x => K (.len x)
    | some .string => lP (c.args.getD 0 (.tmp 0)) fun x => K (.slen x)
    | _ => K (.gen o))
 | .builtin .append => nY (c.args.size == 2 && c.argTypes.size == 2 && ((P.underlying (c.argTypes.getD 1 0)).map pU) == some true) (K (.gen o))
    (match iJ P (c.argTypes.getD 0 0) with
     | some elem => a2S (iF P elem) (K (.gen o)) fun size => a2S (nQ P elem) (K (.gen o)) fun bytes => match jA P elem with
       | some z => nY (z.cells.size == size && size != 0) (K (.gen o)) (kF elem fun elem => lP (c.args.getD 0 (.tmp 0)) fun x => lP (c.args.getD 1 (.tmp 0)) fun y => K (.app elem size bytes x y))
       | none => K (.gen o)
     | none => K (.gen o))
 | _ => K (.gen o)
def c4r (P : Program) (o : Oper) (K : LOp → α) : α := match o.op with
 | .move x => lP x fun x => K (.mv x)
 | .assign x => lP x fun x => K (.mv x)
 | .pick c a b => lP c fun c => lP a fun a => lP b fun b => K (.pick c a b)
 | .binOp op t x y _ => nY (c1Y (P.underlying t)) (K (.gen o)) (match b9W op with
   | some g => lP x fun x => lP y fun y => K (.bin g x y)
   | none => K (.gen o))
 | .load t x => match jR P t with
   | some true => a2S (iF P t) (K (.gen o)) fun n => lP x fun x => K (.ldn n x)
   | some false => lP x fun x => K (.ld1 x)
   | none => K (.gen o)
 | .store t x y => a2S (iF P t) (K (.gen o)) fun n => lP x fun x => lP y fun y => K (.st n x y)
 | .fieldAddr s x f => match oH P s f with
   | some fd => match iF P fd.type with
     | some 0 => K (.gen o)
     | some _ => kF fd.offset fun off => lP x fun x => K (.fa off x)
     | none => K (.gen o)
   | none => K (.gen o)
 | .indexAddr t x i => match P.underlying t with
   | some (.slice elem) => a2S (iF P elem) (K (.gen o)) fun size => lP x fun x => lP i fun i => K (.ixs size x i)
   | some (.array n elem) => a2S (iF P elem) (K (.gen o)) fun size => lP x fun x => lP i fun i => K (.ixa n size x i)
   | _ => K (.gen o)
 | .extract t i => kF i fun i => lP t fun t => K (.ext i t)
 | .call c => b6R P o c K
 | _ => K (.gen o)
def yA (P : Program) (o : Oper) (K : LOp → α) : α := nY (o.op.operands.toList.all iO) (K .bad) (c4r P o K)
def a6D (k : Nat) (d : Option Tmp) (no : α) (K : Option Pth → α) : α := match d with
 | none => K none
 | some t => nY (Nat.blt t k) no (lL (kR t) fun p => K (some p))
def uO (P : Program) (k : Nat) (ops : Array Oper) (l : List Oper) : (LOps → α) → α → α := List.rec (motive := fun _ => (LOps → α) → α → α) (fun K _ => K .nil)
 (fun o _ ih K no => a6D k o.dst no fun d => yA P o fun o' => match o.guard with
   | none => ih (fun r => K (.cons d o' r)) no
   | some (j, w) => match (ops[j]?).bind (·.dst) with
     | some t => nY (Nat.blt t k) no (lL (kR t) fun p => a0c w fun w => ih (fun r => K (.gcons p w d o' r)) no)
     | none => no) l
def loG (k : Nat) (ops : Array Oper) (g : Option (Nat × Bool)) (no : α) (K : Option (Pth × Bool) → α) : α := match g with
 | none => K none
 | some (j, w) => match (ops[j]?).bind (·.dst) with
   | some t => nY (Nat.blt t k) no (lL (kR t) fun p => a0c w fun w => K (some (p, w)))
   | none => no
def tS (P : Program) (k : Nat) (ops : Array Oper) (N : Nat) (tab : List (Nat × Nat)) : (List (Nat × Option Nat × Option (Pth × Bool) × LOp) → α) → α → α := List.rec (motive := fun _ => (List (Nat × Option Nat × Option (Pth × Bool) × LOp) → α) → α → α) (fun K _ => K [])
 (fun x _ ih K no => match ops[x.1]? with
   | some o => loG k ops o.guard no fun g => yA P o fun o' => kF (N - 1 - x.1) fun i => nY (Nat.blt x.2 N) (ih (fun l => K ((i, none, g, o') :: l)) no) (kF (N - 1 - x.2) fun m => ih (fun l => K ((i, some m, g, o') :: l)) no)
   | none => no) tab
def b3W (k : Nat) : (List Pth → α) → α := Nat.rec (motive := fun _ => (List Pth → α) → α) (fun K => K []) (fun n ih K => lL (kR n) fun p => ih fun l => K (p :: l)) k
def c1E {β : Type} (l : List β) : List β → (List β → α) → α := List.rec (motive := fun _ => List β → (List β → α) → α) (fun a K => K a) (fun x _ ih a K => ih (x :: a) K) l
def b2J (k : Nat) (K : List Pth → α) : α := b3W k fun l => c1E l [] K
def xE (k : Nat) (l : List Tmp) : (List Pth → α) → α → α := List.rec (motive := fun _ => (List Pth → α) → α → α) (fun K _ => K []) (fun t _ ih K no => nY (Nat.blt t k) no (lL (kR t) fun p => ih (fun l => K (p :: l)) no)) l
def nB (P : Program) (k : Nat) (c : Code) : (LCode → α) → α := Code.rec (motive := fun _ => (LCode → α) → α)
 (fun K => K .skip)
 (fun _ ops d K => Bool.rec (motive := fun _ => α) (uO P k ops ops.toList (fun l => K (.reg l)) (K .bad))
   (match mY P ops with
     | some [] => uO P k ops ops.toList (fun l => K (.reg l)) (K .bad)
     | some tab => uO P k ops ops.toList (fun l => tS P k ops ops.size tab (fun t => K (.drw l t)) (K .bad)) (K .bad)
     | none => K .bad) d)
 (fun _ _ iha ihb K => iha fun a => ihb fun b => K (.seq a b))
 (fun c _ _ ihx ihy K => nY (iO c) (K .bad) (lP c fun c => ihx fun x => ihy fun y => K (.cond c x y)))
 (fun id _ ih K => kF id fun id => ih fun b => K (.block id b))
 (fun _ ih K => ih fun b => K (.loop b))
 (fun g ps assign body iha ihb K => nY (iO g) (K .bad) (lP g fun g' => b2J k fun pp => xE k ps.toList (fun q => iha fun a => ihb fun b => K (.range g' pp q ps assign body a b)) (K .bad)))
 (fun id K => kF id fun id => K (.exit id))
 (fun _ _ K => K .bad)
 (fun _ K => K .skip)
 (fun _ K => K .bad)
 (fun K => K .ret)
 (fun _ K => K .bad) c
def a0O (P : Program) (l : List ResultVar) : (List LRes → α) → α → α := List.rec (motive := fun _ => (List LRes → α) → α → α) (fun K _ => K [])
 (fun r _ ih K no => match r with
   | .tmp t => lL (kR t) fun p => ih (fun l => K (.t p :: l)) no
   | .cell a t => match jR P t with
     | some true => a2S (iF P t) no fun n => lL (kR a) fun p => ih (fun l => K (.cn n p :: l)) no
     | some false => lL (kR a) fun p => ih (fun l => K (.c1 p :: l)) no
     | none => no) l
def a2m (P : Program) (f : FuncId) (no : α) (K : LFunc → α) : α := match P.funcs[f]? with
 | some fn => match fn.body with
   | some c => nY (fn.name == "runtime.NumGoroutine") (a0O P fn.results.toList (fun res => b2J fn.ntmps fun ps => nB P fn.ntmps c fun b => K ⟨ps, b, res⟩) no) no
   | none => no
 | none => no
def tP (P : Program) (fs : List FuncId) : LT → (LT → α) → α := List.rec (motive := fun _ => LT → (LT → α) → α) (fun T K => K T)
 (fun f _ ih T K => a2m P f (ih T K) fun g => lL (kR f) fun p => sF g p T fun T => ih T K) fs
end
end
end Go.Ds
namespace Go.Ds
section
variable {α : Type}
theorem vG (f k : Nat) : a4s (f + 1) (k + 1) = if k % 2 = 0 then .l (a4s f (k / 2)) else .r (a4s f (k / 2)) := by
 show Bool.rec (motive := fun _ => Pth) (.r (a4s f (k / 2))) (.l (a4s f (k / 2))) (Nat.beq (k % 2) 0) = _
 by_cases h : k % 2 = 0
 ·rw [if_pos h, h]; rfl
 ·rw [if_neg h]
  have : Nat.beq (k % 2) 0 = false := fO.2 fun e => h (dS e)
  rw [this]
theorem a3T (f : Nat) : a4s f 0 = .z := by cases f <;> rfl
theorem a2f : ∀ (f g a b : Nat), a ≤ f → b ≤ g → a4s f a = a4s g b → a = b
 | _, _, 0, 0, _, _, _ => rfl
 | 0, _, a + 1, _, h, _, _ => by omega
 | _, 0, _, b + 1, _, h, _ => by omega
 | f, g + 1, 0, b + 1, _, _, h => by
   rw [a3T, vG] at h
   split at h <;> cases h
 | f + 1, g, a + 1, 0, _, _, h => by
   rw [a3T, vG] at h
   split at h <;> cases h
 | f + 1, g + 1, a + 1, b + 1, ha, hb, h => by
   rw [vG, vG] at h
   by_cases h1 : a % 2 = 0
   ·rw [if_pos h1] at h
    by_cases h2 : b % 2 = 0
    ·rw [if_pos h2] at h
     injection h with h
     have := a2f f g (a / 2) (b / 2) (by omega) (by omega) h
     omega
    ·rw [if_neg h2] at h; cases h
   ·rw [if_neg h1] at h
    by_cases h2 : b % 2 = 0
    ·rw [if_pos h2] at h; cases h
    ·rw [if_neg h2] at h
     injection h with h
     have := a2f f g (a / 2) (b / 2) (by omega) (by omega) h
     omega
theorem b1p {a b : Nat} (h : kR a = kR b) : a = b := a2f _ _ _ _ (dg _) (dg _) h
theorem lJ (p : Pth) (K : Pth → α) : lL p K = K p := by
 induction p generalizing K with
 | z => rfl
 | l p ih => exact ih _
 | r p ih => exact ih _
theorem mO (v : Value) (K : Value → α) : oO v K = K v := by cases v <;> rfl
theorem sP (v : Value) (p : Pth) (f : Fr) (K : Fr → α) : pV v p f K = K (pV v p f fun f => f) := by
 induction p generalizing f α with
 | z => cases f <;> rfl
 | l p ih =>
   cases f with
   | e =>
     show pV v p .e (fun l => K (.n undef l .e)) = K (pV v p .e fun l => .n undef l .e)
     rw [ih, ih (K := fun l => Fr.n undef l .e)]
   | n w l r =>
     show pV v p l (fun l => K (.n w l r)) = K (pV v p l fun l => .n w l r)
     rw [ih, ih (K := fun l => Fr.n w l r)]
 | r p ih =>
   cases f with
   | e =>
     show pV v p .e (fun l => K (.n undef .e l)) = K (pV v p .e fun l => .n undef .e l)
     rw [ih, ih (K := fun l => Fr.n undef .e l)]
   | n w l r =>
     show pV v p r (fun r => K (.n w l r)) = K (pV v p r fun r => .n w l r)
     rw [ih, ih (K := fun r => Fr.n w l r)]
theorem vE (p : Pth) : nZ p .e = undef := by
 cases p <;> rfl
theorem b2o (v : Value) (p q : Pth) (f : Fr) : (q = p → nZ q (pV v p f fun f => f) = v) ∧ (q ≠ p → nZ q (pV v p f fun f => f) = nZ q f) := by
 induction p generalizing f q with
 | z =>
   refine ⟨fun h => ?_, fun h => ?_⟩
   ·subst h; cases f <;> rfl
   ·cases q with
    | z => exact absurd rfl h
    | l q =>
      cases f with
      | e => show nZ q .e = undef; exact vE q
      | n => rfl
    | r q =>
      cases f with
      | e => show nZ q .e = undef; exact vE q
      | n => rfl
 | l p ih =>
   have h1 : ∀ f, pV v (.l p) f (fun f => f) = match f with | .e => .n undef (pV v p .e fun f => f) .e | .n w l r => .n w (pV v p l fun f => f) r := fun f => by
    cases f with
    | e => exact sP v p .e fun l => Fr.n undef l .e
    | n w l r => exact sP v p l fun l => Fr.n w l r
   rw [h1]
   cases q with
   | z => exact ⟨fun h => (nomatch h), fun _ => by cases f <;> rfl⟩
   | r q =>
     refine ⟨fun h => (nomatch h), fun _ => ?_⟩
     cases f with
     | e => show nZ q .e = undef; exact vE q
     | n => rfl
   | l q =>
     refine ⟨fun h => ?_, fun h => ?_⟩
     ·injection h with h
      cases f with
      | e => exact (ih q .e).1 h
      | n w l r => exact (ih q l).1 h
     ·have h : q ≠ p := fun e => h (by rw [e])
      cases f with
      | e => show nZ q (pV v p .e fun f => f) = undef; rw [(ih q .e).2 h, vE]
      | n w l r => exact (ih q l).2 h
 | r p ih =>
   have h1 : ∀ f, pV v (.r p) f (fun f => f) = match f with | .e => .n undef .e (pV v p .e fun f => f) | .n w l r => .n w l (pV v p r fun f => f) := fun f => by
    cases f with
    | e => exact sP v p .e fun l => Fr.n undef .e l
    | n w l r => exact sP v p r fun r => Fr.n w l r
   rw [h1]
   cases q with
   | z => exact ⟨fun h => (nomatch h), fun _ => by cases f <;> rfl⟩
   | l q =>
     refine ⟨fun h => (nomatch h), fun _ => ?_⟩
     cases f with
     | e => show nZ q .e = undef; exact vE q
     | n => rfl
   | r q =>
     refine ⟨fun h => ?_, fun h => ?_⟩
     ·injection h with h
      cases f with
      | e => exact (ih q .e).1 h
      | n w l r => exact (ih q r).1 h
     ·have h : q ≠ p := fun e => h (by rw [e])
      cases f with
      | e => show nZ q (pV v p .e fun f => f) = undef; rw [(ih q .e).2 h, vE]
      | n w l r => exact (ih q r).2 h
def FAg (f : Fr) (l : List Value) : Prop := ∀ t, nZ (kR t) f = get l t
def FRel (k : Nat) (f : Fr) (l : List Value) : Prop := l.length = k ∧ FAg f l
noncomputable def b6l (f : Fr) (t : Tmp) (v : Value) : Fr := pV v (kR t) f fun f => f
theorem a3B (f : Fr) (t u : Tmp) (v : Value) : nZ (kR u) (b6l f t v) = if u = t then v else nZ (kR u) f := by
 have h := b2o v (kR t) (kR u) f
 by_cases he : u = t
 ·rw [if_pos he]; exact h.1 (by rw [he])
 ·rw [if_neg he]; exact h.2 (fun e => he (b1p e))
theorem FRel.put {k : Nat} {f : Fr} {l : List Value} (h : FRel k f l) {t : Tmp} (ht : t < k) (v : Value) : FRel k (b6l f t v) (Go.Ds.put l (some t) v) := by
 refine ⟨by simp [Go.Ds.put, mV, h.1], fun u => ?_⟩
 rw [a3B, b0Z]
 by_cases he : u = t
 ·subst he; rw [if_pos rfl, if_pos ⟨rfl, by rw [h.1]; exact ht⟩]
 ·rw [if_neg he, if_neg (fun hh => he (cT hh.1).symm)]; exact h.2 u
theorem FRel.set {k : Nat} {f : Fr} {l : List Value} (h : FRel k f l) {t : Tmp} (ht : t < k) (v : Value) : FRel k (b6l f t v) (l.set t v) := by
 have := h.put ht v
 simpa [Go.Ds.put, mV] using this
def Rs.Is (r : Rs) (v : Value) (H : Heap) : Prop := r = .ok v H ∨ r = .th v H
theorem Rs.ar {v : Value} {H : Heap} : ¬ Rs.no.Is v H := by rintro (h | h) <;> cases h
theorem Rs.aL {v w : Value} {H H1 : Heap} (h : (Rs.ok v H).Is w H1) : w = v ∧ H1 = H := by
 rcases h with h | h
 ·injection h with a b; exact ⟨a.symm, b.symm⟩
 ·cases h
theorem Rs.aP {v w : Value} {H H1 : Heap} (h : (Rs.th v H).Is w H1) : w = v ∧ H1 = H := by
 rcases h with h | h
 ·cases h
 ·injection h with a b; exact ⟨a.symm, b.symm⟩
theorem kP (b : Bool) (no x : α) : nY b no x = if b = true then x else no := by cases b <;> rfl
theorem lD {b : Bool} {x : Rs} {v : Value} {H : Heap} (h : (nY b Rs.no x).Is v H) : b = true ∧ x.Is v H := by
 cases b with
 | false => exact absurd h Rs.ar
 | true => exact ⟨rfl, h⟩
theorem xY {β : Type} : ∀ (cs : List β) (e : Nat), a8a cs e = decide (e ≤ cs.length)
 | [], 0 => rfl
 | [], e + 1 => by simp; rfl
 | _ :: _, 0 => rfl
 | _ :: cs, e + 1 => by show a8a cs e = _; rw [xY cs e]; simp
theorem yK {β : Type} : ∀ (cs : List β) (e : Nat), a3H cs e = decide (e = cs.length)
 | [], 0 => rfl
 | [], e + 1 => by simp; rfl
 | _ :: _, 0 => by simp; rfl
 | _ :: cs, e + 1 => by show a3H cs e = _; rw [yK cs e]; simp
theorem xQ {β : Type} : ∀ (cs : List β) (e : Nat), a0V cs e = cs[e]?
 | [], _ => rfl
 | _ :: _, 0 => rfl
 | _ :: cs, e + 1 => by show a0V cs e = _; rw [xQ cs e]; simp
theorem a5Y {β : Type} : ∀ (cs : List β) (e : Nat), b1g cs e = cs.drop e
 | [], e => by cases e <;> rfl
 | _ :: _, 0 => rfl
 | _ :: cs, e + 1 => by show b1g cs e = _; rw [a5Y cs e]; rfl
theorem a7T {β : Type} : ∀ {cs : List β} {n : Nat} {K : List β → Rs} {v : Value} {H : Heap}, (a2z cs n K).Is v H → n ≤ cs.length ∧ (K (cs.take n)).Is v H
 | [], 0, K, v, H, h => ⟨dg _, h⟩
 | [], n + 1, K, v, H, h => absurd h Rs.ar
 | _ :: _, 0, K, v, H, h => ⟨eT _, h⟩
 | c :: cs, n + 1, K, v, H, h => by
   have h' : (a2z cs n fun l => K (c :: l)).Is v H := h
   obtain ⟨h1, h2⟩ := a7T h'
   exact ⟨by simp; omega, h2⟩
theorem b8B {a b : IntKind} (h : Nat.beq (kIx a) (kIx b) = true) : a = b := by
 cases a <;> cases b <;> first | rfl | (exact absurd h (by decide))
theorem b4D (k : Nat) (K : List Pth → α) : b3W k K = K ((List.range k).map kR).reverse := by
 induction k generalizing K with
 | zero => rfl
 | succ n ih =>
   show lL (kR n) (fun p => b3W n fun l => K (p :: l)) = _
   rw [lJ, ih, dV]
   simp
theorem b8q {β : Type} (l : List β) : ∀ (a : List β) (K : List β → α), c1E l a K = K (l.reverse ++ a) := by
 induction l with
 | nil => intro a K; rfl
 | cons x l ih => intro a K; show c1E l (x :: a) K = _; rw [ih]; simp
theorem b0V (k : Nat) (K : List Pth → α) : b2J k K = K ((List.range k).map kR) := by
 unfold b2J; rw [b4D, b8q]; simp
theorem pF (n : Nat) (d : α) (K : Nat → α) : a2S (some n) d K = K n := jZ n K
def LK (H H' : Heap) : Prop := H.length ≤ H'.length ∧ ∀ A r', A < H.length → iQ H' A = some (.loop r') →
 ∃ r, iQ H A = some (.loop r) ∧ r'.assign = r.assign ∧ r'.body = r.body ∧ r'.params = r.params ∧ r'.tmps = r.tmps
theorem LK.refl (H : Heap) : LK H H := ⟨dg _, fun _ r _ h => ⟨r, h, rfl, rfl, rfl, rfl⟩⟩
theorem LK.trans {H H1 H2 : Heap} (h : LK H H1) (k : LK H1 H2) : LK H H2 := ⟨dy h.1 k.1, fun A r' hA hr => by
 obtain ⟨r1, h1, a1, b1, c1, d1⟩ := k.2 A r' (dI hA h.1) hr
 obtain ⟨r, h2, a2, b2, c2, d2⟩ := h.2 A r1 hA h1
 exact ⟨r, h2, a1.trans a2, b1.trans b2, c1.trans c2, d1.trans d2⟩⟩
def Blk.cb : Blk → Bool
 | .loop _ => true
 | _ => false
theorem LK.hset (H : Heap) (A : Nat) {b : Blk} (hb : b.cb = false) : LK H (hset H A b) := by
 refine ⟨by rw [jN]; exact dg _, fun B r' hB h => ?_⟩
 by_cases he : A = B
 ·subst he; rw [iS _ hB] at h; injection h with h; subst h; cases hb
 ·rw [iY _ he] at h; exact ⟨r', h, rfl, rfl, rfl, rfl⟩
theorem LK.cons (H : Heap) (b : Blk) : LK H (H.cons b) := by
 refine ⟨by rw [length_cons]; omega, fun B r' hB h => ?_⟩
 rw [jP b hB] at h; exact ⟨r', h, rfl, rfl, rfl, rfl⟩
theorem LK.row (H : Heap) (ty : TypeId) (cs : List Value) : LK H (rQ H ty cs) := by rw [lH]; exact .cons _ _
theorem LK.loop {H : Heap} {L : Nat} {r r' : Loop} (h : iQ H L = some (.loop r)) (e : r'.assign = r.assign ∧ r'.body = r.body ∧ r'.params = r.params ∧ r'.tmps = r.tmps) : LK H (Go.Ds.hset H L (.loop r')) := by
 refine ⟨by rw [jN]; exact dg _, fun B r2 hB hg => ?_⟩
 by_cases he : L = B
 ·subst he; rw [iS _ hB] at hg; injection hg with hg; injection hg with hg; subst hg; exact ⟨r, h, e⟩
 ·rw [iY _ he] at hg; exact ⟨r2, hg, rfl, rfl, rfl, rfl⟩
variable {P : Program}
theorem a7w {H H' : Heap} {t : TypeId} {p v : Value} (h : qY P H t p v = some H') : LK H H' := by
 unfold qY at h
 split at h
 ·split at h
  ·dsimp only at h
   split at h
   ·injection h with h; subst h; exact .hset _ _ rfl
   ·cases h
  ·cases h
 ·cases h
theorem a3L {H H' : Heap} {t : TypeId} {v r : Value} (h : wZ P H t v = some (r, H')) : LK H H' := by
 unfold wZ at h
 dsimp only at h
 split at h
 ·injection h with h; injection h with _ h; subst h; exact .row _ _ _
 ·cases h
theorem a4U {H H' : Heap} {t : TypeId} {s x r : Value} (h : nK P H t s x = some (r, H')) : LK H H' := by
 unfold nK at h
 simp only [cW] at h
 obtain ⟨elem, _, size, _, bytes, _, z, _, ⟨n, l⟩, _, h⟩ := h
 try dsimp only at h
 split at h
 ·split at h
  ·split at h
   ·injection h with h; injection h with _ h; subst h; exact .refl _
   ·injection h with h; injection h with _ h; subst h; exact .row _ _ _
  ·cases h
 ·split at h
  ·split at h
   ·injection h with h; injection h with _ h; subst h; exact .hset _ _ rfl
   ·split at h
    ·injection h with h; injection h with _ h; subst h; exact .hset _ _ rfl
    ·cases h
  ·cases h
 ·cases h
theorem a7Y {H H' : Heap} {t : TypeId} {v r : Value} (h : qO P H t v = some (r, H')) : LK H H' := by
 unfold qO at h
 split at h
 ·dsimp only at h
  rename_i n elem _
  have key : ∀ (b : Bool), (if b = true then some (Value.pointer (some ⟨H.length, 0, some v.cells.toList.length⟩), b3S H elem v.cells.toList) else none) = some (r, H') → LK H H' := by
   intro b h
   cases b
   ·cases h
   ·injection h with h; injection h with _ h; subst h; rw [a1f]; exact .cons _ _
  exact key _ h
 ·exact a3L h
theorem a4J {H H' : Heap} {t : TypeId} {x y r : Value} (h : vO P H t x y = some (r, H')) : LK H H' := by
 unfold vO at h
 split at h
 ·split at h
  ·split at h
   ·simp only [de] at h
    obtain ⟨_, _, h⟩ := h
    injection h with _ h; subst h; exact .hset _ _ rfl
   ·cases h
  ·cases h
 ·cases h
theorem a5s {H H' : Heap} {k : FuncId} {args : List Value} {r : Value} (h : qC P k args H = some (r, H')) : LK H H' := by
 unfold qC at h
 simp only [cW] at h
 obtain ⟨fn, _, h⟩ := h
 split at h
 case isFalse => cases h
 split at h
 ·split at h
  ·injection h with h; injection h with _ h; subst h; exact .refl _
  ·cases h
 split at h
 ·split at h
  ·split at h
   ·simp only [cW] at h
    obtain ⟨_, _, h⟩ := h
    split at h
    ·injection h with h; injection h with _ h; subst h; exact .row _ _ _
    ·cases h
   ·cases h
  ·cases h
 split at h
 ·split at h
  ·split at h
   ·split at h
    ·injection h with h; injection h with _ h; subst h; exact .refl _
    ·cases h
   ·cases h
  ·cases h
 ·cases h
theorem a8T {H H' : Heap} {t : TypeId} {s x r : Value} (h : a0B P H t s x = some (r, H')) : LK H H' := by
 unfold a0B at h
 simp only [cW] at h
 obtain ⟨elem, _, size, _, m, _, h⟩ := h
 try dsimp only at h
 split at h
 ·split at h
  ·injection h with h; injection h with _ h; subst h; exact .refl _
  ·cases h
 ·split at h
  ·injection h with h; injection h with _ h; subst h; exact .refl _
  ·simp only [cW] at h
   obtain ⟨l, _, h⟩ := h
   split at h
   ·split at h
    ·injection h with h; injection h with _ h; subst h; exact .hset _ _ rfl
    ·cases h
   ·cases h
 ·cases h
theorem a6L {H H' : Heap} {t : TypeId} {x r : Value} (h : sU P H t x = some (r, H')) : LK H H' := by
 unfold sU at h
 simp only [cW] at h
 obtain ⟨elem, _, z, _, h⟩ := h
 split at h
 ·injection h with h; injection h with _ h; subst h; exact .refl _
 ·split at h
  ·injection h with h; injection h with _ h; subst h; exact .refl _
  ·try dsimp only at h
   split at h
   ·split at h
    ·injection h with h; injection h with _ h; subst h; exact .hset _ _ rfl
    ·cases h
   ·cases h
 ·cases h
theorem b3e {H H' : Heap} {t : TypeId} {m k v : Value} (h : a0U P H t m k v = some H') : LK H H' := by
 unfold a0U at h
 simp only [cW] at h
 obtain ⟨⟨kt, et⟩, _, h⟩ := h
 dsimp only at h
 split at h
 ·split at h
  ·split at h
   ·simp only [cW] at h
    obtain ⟨r, _, h⟩ := h
    split at h
    ·simp only [cW] at h
     obtain ⟨e, _, h⟩ := h
     split at h
     ·injection h with h; subst h; exact .hset _ _ rfl
     ·cases h
    ·injection h with h; subst h; exact .hset _ _ rfl
   ·cases h
  ·cases h
 ·cases h
theorem a7a {H H' : Heap} {t : TypeId} {m k r : Value} (h : tE P H t m k = some (r, H')) : LK H H' := by
 unfold tE at h
 simp only [cW] at h
 obtain ⟨⟨kt, et⟩, _, h⟩ := h
 dsimp only at h
 split at h
 ·split at h
  ·split at h
   ·simp only [cW] at h
    obtain ⟨r, _, h⟩ := h
    split at h
    ·simp only [cW] at h
     obtain ⟨e, _, h⟩ := h
     split at h
     ·injection h with h; injection h with _ h; subst h; exact .hset _ _ rfl
     ·cases h
    ·simp only [cW] at h
     obtain ⟨z, _, h⟩ := h
     split at h
     ·injection h with h; injection h with _ h; subst h; exact .hset _ _ rfl
     ·cases h
   ·cases h
  ·cases h
 ·cases h
theorem a7j {H H' : Heap} {m b v : Value} (h : rS H m b v = some H') : LK H H' := by
 unfold rS at h
 split at h
 ·split at h
  ·split at h
   ·simp only [cW] at h
    obtain ⟨e, _, h⟩ := h
    injection h with h; subst h; exact .hset _ _ rfl
   ·cases h
  ·cases h
 ·cases h
theorem a3g {H H' : Heap} {t : TypeId} {o : Option Value} {r : Value} (h : pM P H t o = some (r, H')) : LK H H' := by
 unfold pM at h
 simp only [cW] at h
 obtain ⟨_, _, h⟩ := h
 split at h
 ·injection h with h; injection h with _ h; subst h; exact .cons _ _
 ·injection h with h; injection h with _ h; subst h; exact .cons _ _
 ·cases h
theorem a6l {H H' : Heap} {o : Oper} {l : List Value} {r : Value} (h : kO P o l H = some (r, H')) : H' = H := by
 unfold kO at h
 split at h
 ·split at h
  ·split at h
   ·injection h with h; injection h with _ h; exact h.symm
   ·cases h
  ·cases h
 ·cases h
theorem vJ {H H' : Heap} {v r : Value} (h : some (v, H) = some (r, H')) : LK H H' := by injection h with h; injection h with _ h; subst h; exact .refl _
theorem uF {H H' : Heap} {v : Option Value} {r : Value} (h : v.map (fun v => (v, H)) = some (r, H')) : LK H H' := by
 cases v with
 | none => cases h
 | some v => exact vJ h
set_option maxHeartbeats 1000000 in
theorem b5g {H H' : Heap} {o : Oper} {l : List Value} {r : Value} (h : opD P o l H = some (r, H')) : LK H H' := by
 obtain ⟨dst, op, type, pos, after, guard⟩ := o
 have pl : ∀ {o : Oper}, kO P o l H = some (r, H') → LK H H' := fun h => by rw [a6l h]; exact .refl _
 cases op with
 | alloc t =>
   simp only [opD, cW] at h
   obtain ⟨z, _, h⟩ := h
   split at h
   ·exact a7Y h
   ·cases h
 | box t x => simp only [opD] at h; exact a3L h
 | store t x y =>
   simp only [opD, de] at h
   obtain ⟨H1, h, e⟩ := h
   injection e with _ e; subst e
   exact a7w h
 | mapUpdate t m x y =>
   simp only [opD, de] at h
   obtain ⟨H1, h, e⟩ := h
   injection e with _ e; subst e
   exact b3e h
 | mapEntry t m x => simp only [opD] at h; exact a7a h
 | entryStore t m x y =>
   simp only [opD, de] at h
   obtain ⟨H1, h, e⟩ := h
   injection e with _ e; subst e
   exact a7j h
 | makeMap t x => simp only [opD] at h; exact a3g h
 | buildSlice t len parts =>
   simp only [opD, cW] at h
   obtain ⟨elem, _, size, _, z, _, h⟩ := h
   split at h
   ·injection h with h; injection h with _ h; subst h; exact .row _ _ _
   split at h
   ·simp only [de] at h
    obtain ⟨cs, _, e⟩ := h
    injection e with _ e; subst e
    exact .row _ _ _
   ·cases h
 | makeSlice t n c =>
   simp only [opD, cW] at h
   obtain ⟨elem, _, size, _, bytes, _, z, _, h⟩ := h
   split at h
   ·split at h
    ·injection h with h; injection h with _ h; subst h; exact .row _ _ _
    ·cases h
   ·cases h
 | call c =>
   simp only [opD] at h
   split at h
   ·split at h
    ·split at h
     all_goals first | exact uF h | cases h
    ·cases h
   ·split at h
    ·exact a4U h
    ·cases h
   ·split at h
    ·exact a8T h
    ·cases h
   ·split at h
    ·exact a6L h
    ·cases h
   ·exact pl h
   ·split at h
    ·split at h
     ·split at h
      ·cases h
      ·exact vJ h
     ·cases h
    ·cases h
   ·split at h
    ·exact a4J h
    ·cases h
   ·exact pl h
   ·exact pl h
   ·cases h
 | convert s t x =>
   simp only [opD] at h
   split at h
   ·exact pl h
   ·split at h
    ·split at h
     ·exact uF h
     ·cases h
    ·split at h
     ·simp only [cW] at h
      obtain ⟨_, _, h⟩ := h
      injection h with h; injection h with _ h; subst h
      rw [b0J]; exact .cons _ _
     ·cases h
    ·split at h
     ·exact vJ h
     ·cases h
    ·cases h
 | slice t x lo hi mx =>
   cases mx with
   | some _ => simp only [opD] at h; cases h
   | none =>
     simp only [opD] at h
     split at h
     ·exact pl h
     ·split at h
      ·exact uF h
      ·exact uF h
 | _ =>
   simp only [opD] at h
   repeat' first
    | exact LK.refl _
    | exact vJ h
    | exact uF h
    | exact pl h
    | (cases h; done)
    | split at h
    | (simp only [cW, de] at h; obtain ⟨_, _, h⟩ := h)
    | (obtain ⟨_, _, h⟩ := h)
    | (injection h with h; injection h with _ h; subst h; exact LK.refl _)
    | (injection h with _ h; subst h; exact LK.refl _)
    | (cases h; exact LK.refl _)
end
end Go.Ds
namespace Go.Ds
variable {P : Program}
structure CallsOk (P : Program) (C : Calls') (H0 : Heap) : Prop where
 fn : ∀ p f args H v H1, LK H0 H → (C.fn p f args H).Is v H1 → p = kR f → (FnS P f args H (fun v' H' => v' = v ∧ H' = H1) ∨ qC P f args H = some (v, H1)) ∧ LK H H1
 rd : ∀ L args H v H1, LK H0 H → (C.rd L args H).Is v H1 → yZ P L args H v H1 ∧ LK H H1
noncomputable def iV (x : Operand) : LArg := match x with
 | .tmp t => .t (kR t)
 | .const v => .c v
 | .global g => .c (.pointer (some ⟨g, 0, none⟩))
 | .func k => .c (.func (.func k) #[] #[])
theorem kZ {α : Type} (x : Operand) (K : LArg → α) : lP x K = K (iV x) := by
 cases x with
 | tmp t => exact lJ _ _
 | _ => rfl
theorem jT {f : Fr} {l : List Value} (h : FAg f l) (x : Operand) : mL f (iV x) = ev l x := by
 cases x with
 | tmp t => exact h t
 | _ => rfl
theorem a3o {α : Type} (l : List Operand) (K : List LArg → α) : a5g l K = K (l.map iV) := by
 induction l generalizing K with
 | nil => rfl
 | cons x l ih =>
   show lP x (fun x => a5g l fun l => K (x :: l)) = _
   rw [kZ, ih]; rfl
theorem a5R {α : Type} {f : Fr} {l : List Value} (h : FAg f l) (xs : List Operand) (K : List Value → α) : a3W f (xs.map iV) K = K (xs.map (ev l)) := by
 induction xs generalizing K with
 | nil => rfl
 | cons x xs ih =>
   show oO (mL f (iV x)) (fun v => a3W f (xs.map iV) fun l => K (v :: l)) = _
   rw [mO, ih, jT h]; rfl
theorem c1X {f : Fr} {l : List Value} (h : FAg f l) : evF f = ev l := by
 funext x
 cases x with
 | tmp t => exact h t
 | _ => rfl
def vW (P : Program) (o : Oper) (lo : LOp) : Prop := ∀ C H0 f l H v H1, CallsOk P C H0 → LK H0 H → FAg f l → (opF P C lo f H).Is v H1 → StepR P o l H v H1 ∧ LK H H1
def LowPl (P : Program) (o : Oper) (lo : LOp) : Prop := ∀ C f l H v H1, FAg f l → (opF P C lo f H).Is v H1 → opD P o l H = some (v, H1)
theorem LowPl.low {o : Oper} {lo : LOp} (hok : o.op.operands.toList.all iO = true) (h : LowPl P o lo) : vW P o lo :=
 fun C _ f l H v H1 _ _ hf hr => by have := h C f l H v H1 hf hr; exact ⟨.op hok this, b5g this⟩
theorem b9k (o : Oper) : vW P o .bad := fun _ _ _ _ _ _ _ _ _ _ h => absurd h Rs.ar
theorem b8g (o : Oper) : LowPl P o (.gen o) := fun C f l H v H1 hf hr => by
 have hr : (match c2P P o (evF f) H with | some (v, H1) => Rs.th v H1 | none => .no).Is v H1 := hr
 rw [c1X hf] at hr
 have e : c2P P o (ev l) H = opD P o l H := rfl
 rw [e] at hr
 split at hr
 ·rename_i v2 H2 h2
  obtain ⟨rfl, rfl⟩ := Rs.aP hr
  exact h2
 ·exact absurd hr Rs.ar
section
variable {dst : Option Tmp} {type : TypeId} {pos : String} {after : Array Edge} {guard : Option (Nat × Bool)}
theorem c1b (x : Operand) : LowPl P ⟨dst, .move x, type, pos, after, guard⟩ (.mv (iV x)) := fun C f l H v H1 hf hr => by
 have hr : (oO (mL f (iV x)) fun v => Rs.ok v H).Is v H1 := hr
 rw [mO, jT hf] at hr
 obtain ⟨rfl, rfl⟩ := Rs.aL hr
 rfl
theorem c2x (x : Operand) : LowPl P ⟨dst, .assign x, type, pos, after, guard⟩ (.mv (iV x)) := fun C f l H v H1 hf hr => by
 have hr : (oO (mL f (iV x)) fun v => Rs.ok v H).Is v H1 := hr
 rw [mO, jT hf] at hr
 obtain ⟨rfl, rfl⟩ := Rs.aL hr
 rfl
theorem b6m (c a b : Operand) : LowPl P ⟨dst, .pick c a b, type, pos, after, guard⟩ (.pick (iV c) (iV a) (iV b)) := fun C f l H v H1 hf hr => by
 have hr : (b4A (iV c) (iV a) (iV b) f H).Is v H1 := hr
 unfold b4A at hr
 rw [jT hf] at hr
 split at hr
 ·rename_i t ht
  rw [mO] at hr
  simp only [opD, ht]
  cases t
  ·have hr : (Rs.ok (mL f (iV b)) H).Is v H1 := hr
   rw [jT hf] at hr
   obtain ⟨rfl, rfl⟩ := Rs.aL hr; rfl
  ·have hr : (Rs.ok (mL f (iV a)) H).Is v H1 := hr
   rw [jT hf] at hr
   obtain ⟨rfl, rfl⟩ := Rs.aL hr; rfl
 ·exact absurd hr Rs.ar
theorem b9r (a b : Int) : c3C a b = a * b := by cases a <;> cases b <;> rfl
theorem a4S (a b : Int) : c3o a b = a.tdiv b := by cases a <;> cases b <;> rfl
theorem a4t (a b : Int) : c3s a b = a.tmod b := by cases a <;> cases b <;> rfl
theorem b7D {op : BinOp} {g : IntKind → Int → Int → Option Value} (h : b9W op = some g) (k : IntKind) (a b : Int) : mM op k a b = g k a b := by
 cases op <;> simp only [b9W] at h <;> first | (cases h; done) | (injection h with h; subst h)
 all_goals first
  | rfl
  | (simp only [mM, c5v, b9r]; done)
  | (simp only [mM, b8U, a4S]; done)
  | (simp only [mM, b8t, a4t]; done)
  | (simp only [mM, b8U, a4S]; rfl)
  | (simp only [mM, b8t, a4t]; rfl)
  | (simp only [mM, b8U, a4S]; cases eqI b 0 <;> rfl)
  | (simp only [mM, b8t, a4t]; cases eqI b 0 <;> rfl)
theorem c3w {o : Option Value} {H H1 : Heap} {v : Value} (h : (oV o H).Is v H1) : o = some v ∧ H1 = H := by
 cases o with
 | none => exact absurd h Rs.ar
 | some w => obtain ⟨rfl, rfl⟩ := Rs.aP h; exact ⟨rfl, rfl⟩
theorem b6p {o : Option Value} {H H1 : Heap} {v : Value} (h : (okV o H).Is v H1) : o = some v ∧ H1 = H := by
 cases o with
 | none => exact absurd h Rs.ar
 | some w =>
   have h : (oO w fun v => Rs.ok v H).Is v H1 := h
   rw [mO] at h
   obtain ⟨rfl, rfl⟩ := Rs.aL h; exact ⟨rfl, rfl⟩
theorem b8S {op : BinOp} {g : IntKind → Int → Int → Option Value} (hg : b9W op = some g) (t yt : TypeId) (x y : Operand) : LowPl P ⟨dst, .binOp op t x y yt, type, pos, after, guard⟩ (.bin g (iV x) (iV y)) := fun C f l H v H1 hf hr => by
 have hr : (c1m g (iV x) (iV y) f H).Is v H1 := hr
 unfold c1m at hr
 rw [jT hf] at hr
 split at hr
 ·rename_i k a hx
  unfold b9Z at hr
  rw [jT hf] at hr
  split at hr
  ·rename_i k' b hy
   obtain ⟨hk, hq⟩ := lD hr
   obtain rfl := b8B hk
   obtain ⟨hv, rfl⟩ := c3w hq
   rw [← b7D hg] at hv
   have : opD P ⟨dst, .binOp op t x y yt, type, pos, after, guard ⟩ l H1 = if k = k then (match mM op k a b with | some v => some (v, H1) | none => kO P ⟨dst, .binOp op t x y yt, type, pos, after, guard ⟩ l H1) else kO P ⟨dst, .binOp op t x y yt, type, pos, after, guard ⟩ l H1 := by
    simp only [opD, hx, hy]
    cases op <;> rfl
   rw [this, if_pos rfl, hv]
  ·exact absurd hr Rs.ar
 ·exact absurd hr Rs.ar
theorem b8C {b : Option Blk} {i e : Nat} {H H1 : Heap} {v : Value} (h : (b7Q b i e H).Is v H1) : H1 = H ∧ ∃ cs ty rw lo ver, b = some (.cells cs ty rw lo ver) ∧ lo ≤ e ∧ e ≤ cs.length ∧ i + 1 ≤ e ∧ cs[i]? = some v := by
 unfold b7Q at h
 split at h
 ·rename_i cs ty rw lo ver
  obtain ⟨h1, h⟩ := lD h
  obtain ⟨h2, h⟩ := lD h
  obtain ⟨h3, h⟩ := lD h
  have h : (okV (a0V cs i) H).Is v H1 := h
  obtain ⟨h4, h5⟩ := b6p h
  rw [xY] at h2
  rw [xQ] at h4
  exact ⟨h5, cs, ty, rw, lo, ver, rfl, ew h1, by simpa using h2, ew h3, h4⟩
 ·exact absurd h Rs.ar
theorem b9I {b : Option Blk} {n i e : Nat} {H H1 : Heap} {v : Value} (h : (b9x b n i e H).Is v H1) : H1 = H ∧ ∃ cs ty rw lo ver, b = some (.cells cs ty rw lo ver) ∧ lo ≤ e ∧ e ≤ cs.length ∧ i + n ≤ e ∧ v = .agg ((cs.drop i).take n).toArray := by
 unfold b9x at h
 split at h
 ·rename_i cs ty rw lo ver
  obtain ⟨h1, h⟩ := lD h
  obtain ⟨h2, h⟩ := lD h
  obtain ⟨h3, h⟩ := lD h
  obtain ⟨h4, h⟩ := a7T h
  obtain ⟨rfl, rfl⟩ := Rs.aL h
  rw [xY] at h2
  exact ⟨rfl, cs, ty, rw, lo, ver, rfl, ew h1, by simpa using h2, ew h3, by rw [a5Y]⟩
 ·exact absurd h Rs.ar
theorem b1d {X : LArg} {f : Fr} {H H1 : Heap} {v w : Value} {t : TypeId} (ht : jR P t = some false) (hw : mL f X = w) (h : (b3k X f H).Is v H1) : H1 = H ∧ lO P H t w = some v := by
 unfold b3k at h
 rw [hw] at h
 split at h
 ·rename_i A i e
  obtain ⟨h1, cs, ty, rw', lo, ver, h2, h3, h4, h5, h6⟩ := b8C h
  refine ⟨h1, ?_⟩
  simp only [lO, ht, jC, h2]
  rw [if_pos (by simp; omega)]
  simp [h6]
 ·rename_i A i
  unfold c0Q at h
  split at h
  ·rename_i cs ty lo hg
   obtain ⟨h1, h⟩ := lD h
   rw [xY] at h1
   have h1 : lo ≤ cs.length := by simpa using h1
   cases hn : a0V cs i with
   | none => rw [hn] at h; exact absurd h Rs.ar
   | some c =>
     rw [hn] at h
     have h : (oO c fun v => Rs.ok v H).Is v H1 := h
     rw [mO] at h
     obtain ⟨rfl, rfl⟩ := Rs.aL h
     rw [xQ] at hn
     have hi := (dq.1 hn).1
     refine ⟨rfl, ?_⟩
     simp only [lO, ht, jC, hg]
     rw [if_pos (by simp; omega)]
     simp [hn]
  ·exact absurd h Rs.ar
 ·exact absurd h Rs.ar
theorem b0R {X : LArg} {f : Fr} {H H1 : Heap} {v w : Value} {t : TypeId} {n : Nat} (ht : jR P t = some true) (hn : iF P t = some n) (hw : mL f X = w) (h : (b3u n X f H).Is v H1) : H1 = H ∧ lO P H t w = some v := by
 unfold b3u at h
 rw [hw] at h
 split at h
 ·rename_i A i e
  obtain ⟨h1, cs, ty, rw', lo, ver, h2, h3, h4, h5, h6⟩ := b9I h
  refine ⟨h1, ?_⟩
  simp only [lO, ht, hn, cV, jC, h2]
  rw [if_pos (by simp; omega), h6]
  rfl
 ·exact absurd h Rs.ar
theorem b8R {t : TypeId} (ht : jR P t = some false) (x : Operand) : LowPl P ⟨dst, .load t x, type, pos, after, guard⟩ (.ld1 (iV x)) := fun C f l H v H1 hf hr => by
 obtain ⟨rfl, h⟩ := b1d (P := P) ht (jT hf x) hr
 simp only [opD, h, dK]
theorem b9a {t : TypeId} {n : Nat} (ht : jR P t = some true) (hn : iF P t = some n) (x : Operand) : LowPl P ⟨dst, .load t x, type, pos, after, guard⟩ (.ldn n (iV x)) := fun C f l H v H1 hf hr => by
 obtain ⟨rfl, h⟩ := b0R (P := P) ht hn (jT hf x) hr
 simp only [opD, h, dK]
theorem c1r {t : TypeId} {n : Nat} (hn : iF P t = some n) (x y : Operand) : LowPl P ⟨dst, .store t x y, type, pos, after, guard⟩ (.st n (iV x) (iV y)) := fun C f l H v H1 hf hr => by
 have hr : (hSt n (iV x) (iV y) f H).Is v H1 := hr
 unfold hSt at hr
 rw [jT hf, jT hf] at hr
 split at hr
 ·rename_i A i e hx
  unfold stB at hr
  split at hr
  ·rename_i cs ty lo ver hg
   obtain ⟨h1, hr⟩ := lD hr
   obtain ⟨h2, hr⟩ := lD hr
   obtain ⟨h3, hr⟩ := lD hr
   obtain ⟨h4, hr⟩ := lD hr
   obtain ⟨h5, hr⟩ := lD hr
   obtain ⟨rfl, rfl⟩ := Rs.aP hr
   rw [yK] at h1 h3
   have h1 : n = (ev l y).cells.toList.length := by simpa only [decide_eq_true_eq] using h1
   have h3 : e = cs.length := by simpa only [decide_eq_true_eq] using h3
   have h4 : i + n ≤ e := ew h4
   have h5 : lo ≤ e := ew h5
   simp only [opD, qY, hx, hg]
   rw [if_pos ⟨by rw [hn, h1], h2, h3, by omega, h5⟩]
   simp only [dK]
   rw [h3]
  ·exact absurd hr Rs.ar
 ·exact absurd hr Rs.ar
theorem c1M {s : TypeId} {k n : Nat} {fd : Field} (hf' : oH P s k = some fd) (hn : iF P fd.type = some n) (hn0 : n ≠ 0) (x : Operand) : LowPl P ⟨dst, .fieldAddr s x k, type, pos, after, guard⟩ (.fa fd.offset (iV x)) := fun C f l H v H1 hf hr => by
 have hr : (hFa fd.offset (iV x) f H).Is v H1 := hr
 unfold hFa at hr
 rw [jT hf] at hr
 split at hr
 ·rename_i A i e hx
  rw [jZ] at hr
  obtain ⟨rfl, rfl⟩ := Rs.aL hr
  simp only [opD, hx, hf', cV, hn]
  rw [if_neg (by simpa using hn0)]; rfl
 ·exact absurd hr Rs.ar
theorem b5V {A i e size n : Nat} {H H1 : Heap} {j v : Value} (h : (ixP A i e size n H j).Is v H1) : H1 = H ∧ ∃ k m, j = .int k (.ofNat m) ∧ m < n ∧ v = .pointer (some ⟨A, i + m * size, some e⟩) := by
 unfold ixP at h
 split at h
 ·rename_i k m
  obtain ⟨h1, h⟩ := lD h
  rw [jZ] at h
  obtain ⟨rfl, rfl⟩ := Rs.aL h
  rw [blt_eq] at h1
  exact ⟨rfl, k, m, rfl, by simpa using h1, rfl⟩
 ·exact absurd h Rs.ar
theorem b7w {t elem : TypeId} {size : Nat} (ht : P.underlying t = some (.slice elem)) (hs : iF P elem = some size) (x i : Operand) : LowPl P ⟨dst, .indexAddr t x i, type, pos, after, guard⟩ (.ixs size (iV x) (iV i)) := fun C f l H v H1 hf hr => by
 have hr : (c1N size (iV x) (iV i) f H).Is v H1 := hr
 unfold c1N at hr
 rw [jT hf, jT hf] at hr
 split at hr
 ·rename_i A a e n c hx
  obtain ⟨rfl, k, m, hj, hm, rfl⟩ := b5V hr
  simp only [opD, ht, hx, hj, hs, cV]
  rw [if_pos (by simp; omega)]
  rfl
 ·exact absurd hr Rs.ar
theorem c3H (a b : Nat) : Nat.beq a b = (a == b) := by
 cases h : Nat.beq a b with
 | true => rw [dS h]; simp
 | false => have := Nat.ne_of_beq_eq_false h; simp [this]
theorem c2K {A i size n : Nat} {H H1 : Heap} {j v : Value} (h : (ixG A i size n H j).Is v H1) : H1 = H ∧ ∃ k m, j = .int k (.ofNat m) ∧ m < n ∧ v = .pointer (some ⟨A, i + m * size, none⟩) := by
 unfold ixG at h
 split at h
 ·rename_i k m
  obtain ⟨h1, h⟩ := lD h
  rw [jZ] at h
  obtain ⟨rfl, rfl⟩ := Rs.aL h
  exact ⟨rfl, k, m, rfl, by simpa [gZ] using h1, rfl⟩
 ·exact absurd h Rs.ar
theorem b9D {t elem : TypeId} {n size : Nat} (ht : P.underlying t = some (.array n elem)) (hs : iF P elem = some size) (x i : Operand) : LowPl P ⟨dst, .indexAddr t x i, type, pos, after, guard⟩ (.ixa n size (iV x) (iV i)) := fun C f l H v H1 hf hr => by
 have hr : (c2H n size (iV x) (iV i) f H).Is v H1 := hr
 unfold c2H at hr
 rw [jT hf, jT hf] at hr
 split at hr
 ·rename_i A a e hx
  obtain ⟨rfl, k, m, hj, hm, rfl⟩ := b5V hr
  simp only [opD, ht, hx, hj, hs, cV]
  rw [if_pos (by simp; omega)]
  rfl
 ·rename_i A a hx
  obtain ⟨rfl, k, m, hj, hm, rfl⟩ := c2K hr
  simp only [opD, ht, hx, hj, hs, cV]
  rw [if_pos (by simp; omega)]
  rfl
 ·exact absurd hr Rs.ar
theorem b9E (i : Nat) (x : Operand) : LowPl P ⟨dst, .extract x i, type, pos, after, guard⟩ (.ext i (iV x)) := fun C f l H v H1 hf hr => by
 have hr : (c2I i (iV x) f H).Is v H1 := hr
 unfold c2I at hr
 rw [jT hf] at hr
 split at hr
 ·rename_i vs hx
  obtain ⟨h1, rfl⟩ := b6p hr
  rw [xQ] at h1
  simp only [opD, hx]
  simp [h1]
 ·exact absurd hr Rs.ar
theorem b7S {c : Call} {elem : TypeId} (hc : c.callee = .builtin .len) (h1 : c.args.size = 1) (h2 : c.argTypes.size = 1) (ht : P.underlying (c.argTypes.getD 0 0) = some (.slice elem)) : LowPl P ⟨dst, .call c, type, pos, after, guard⟩ (.len (iV (c.args.getD 0 (.tmp 0)))) := fun C f l H v H1 hf hr => by
 have hr : (c1u (iV (c.args.getD 0 (.tmp 0))) f H).Is v H1 := hr
 unfold c1u at hr
 rw [jT hf] at hr
 split at hr
 ·rename_i a n k hx
  obtain ⟨rfl, rfl⟩ := Rs.aP hr
  simp only [opD, hc, h1, h2, ht, hx, wP]; rfl
 ·exact absurd hr Rs.ar
theorem b4d {c : Call} (hc : c.callee = .builtin .len) (h1 : c.args.size = 1) (h2 : c.argTypes.size = 1) (ht : P.underlying (c.argTypes.getD 0 0) = some .string) : LowPl P ⟨dst, .call c, type, pos, after, guard⟩ (.slen (iV (c.args.getD 0 (.tmp 0)))) := fun C f l H v H1 hf hr => by
 have hr : (b6B (iV (c.args.getD 0 (.tmp 0))) f H).Is v H1 := hr
 unfold b6B at hr
 rw [jT hf] at hr
 split at hr
 ·rename_i s hx
  obtain ⟨rfl, rfl⟩ := Rs.aP hr
  simp only [opD, hc, h1, h2, ht, hx, wP]; rfl
 ·exact absurd hr Rs.ar
theorem b8d {c : Call} {elem : TypeId} {size bytes : Nat} {z : Value} (hc : c.callee = .builtin .append) (h1 : c.args.size = 2) (h2 : c.argTypes.size = 2) (hi : ((P.underlying (c.argTypes.getD 1 0)).map pU) = some true)
 (he : iJ P (c.argTypes.getD 0 0) = some elem) (hs : iF P elem = some size) (hb : nQ P elem = some bytes) (hz : jA P elem = some z) (hzs : z.cells.size = size) (hs0 : size ≠ 0) :
 LowPl P ⟨dst, .call c, type, pos, after, guard⟩ (.app elem size bytes (iV (c.args.getD 0 (.tmp 0))) (iV (c.args.getD 1 (.tmp 0)))) := fun C f l H v H1 hf hr => by
 have hr : (c2Q P elem size bytes (iV (c.args.getD 0 (.tmp 0))) (iV (c.args.getD 1 (.tmp 0))) f H).Is v H1 := hr
 unfold c2Q at hr
 rw [jT hf, jT hf] at hr
 have hD : opD P ⟨dst, .call c, type, pos, after, guard⟩ l H = nK P H (c.argTypes.getD 0 0) (ev l (c.args.getD 0 (.tmp 0))) (ev l (c.args.getD 1 (.tmp 0))) := by
  simp only [opD, hc, h1, h2, hi]; rfl
 rw [hD]
 unfold nK
 rw [he, cV, hs, cV, hb, cV, hz, cV]
 split at hr
 ·rename_i n m hsrc
  rw [hsrc, cV]
  unfold c3K at hr
  split at hr
  ·rename_i k cc hx
   obtain ⟨g1, hq1⟩ := lD hr
   obtain ⟨g2, hq2⟩ := lD hq1
   obtain ⟨g3, hq⟩ := lD hq2
   clear hr hq1 hq2
   obtain rfl : k = 0 := dS g1
   obtain rfl : cc = 0 := dS g2
   have g3 : n * (bytes + 1) ≤ oX := ew g3
   simp only [hx]
   rw [if_pos (by simp [hs0, hzs, g3])]
   rw [kP] at hq
   by_cases hn : n = 0
   ·subst hn
    rw [if_pos (by rfl)] at hq
    obtain ⟨rfl, rfl⟩ := Rs.aL hq
    simp
   ·rw [if_neg (fun e => hn (dS e))] at hq
    obtain ⟨rfl, rfl⟩ := Rs.aP hq
    simp [hn]
  ·rename_i A i e k cc hx
   unfold c4Q at hr
   split at hr
   ·rename_i cs ty lo ver hg
    obtain ⟨g2, hr⟩ := lD hr
    obtain ⟨g4, hr⟩ := lD hr
    obtain ⟨g5, hr⟩ := lD hr
    have g2 : (ty == elem || iF P ty == some size) = true := by
     rw [c3H] at g2
     cases hh : (ty == elem) with
     | true => rfl
     | false => rw [hh] at g2; exact g2
    rw [yK] at g4
    have g4 : e = cs.length := by simpa only [decide_eq_true_eq] using g4
    have g5 : lo ≤ e := ew g5
    simp only [hx, hg]
    rw [kP] at hr
    by_cases g3 : i + k * size = e
    ·rw [if_pos (by simpa using g3)] at hr
     obtain ⟨g1, hr⟩ := lD hr
     obtain ⟨rfl, rfl⟩ := Rs.aP hr
     have g1 : (k + n) * (bytes + 1) ≤ oX := ew g1
     have et : (Bool.rec (motive := fun _ => Nat) 2 ver (Nat.beq ty elem)) = (if (ty == elem) = true then ver else 2) := by
      rw [c3H]
      cases hh : (ty == elem) with
      | true => rfl
      | false => rfl
     rw [et, if_pos (by simp only [g2, fo, cU, bne_iff_ne, beq_iff_eq, decide_eq_true_eq]; exact ⟨⟨⟨⟨⟨hs0, g1⟩, by simpa using hzs⟩, g3⟩, g4⟩, g5⟩)]
    ·rw [if_neg (by simpa using g3)] at hr
     rw [kP] at hr
     by_cases hn : n = 0
     ·rw [if_pos (by simpa using hn)] at hr
      exact absurd hr Rs.ar
     ·rw [if_neg (by simpa using hn)] at hr
      obtain ⟨g6, hr⟩ := lD hr
      obtain ⟨rfl, rfl⟩ := Rs.aP hr
      have g6 : i + (k + n) * size ≤ e := ew g6
      rw [if_neg (by simp [g3]), if_pos (by simp only [g2, fo, cU, bne_iff_ne, beq_iff_eq, decide_eq_true_eq]; exact ⟨⟨⟨⟨⟨hs0, hn⟩, by simpa using hzs⟩, g6⟩, g4⟩, g5⟩), g4]
   ·exact absurd hr Rs.ar
  ·exact absurd hr Rs.ar
 ·exact absurd hr Rs.ar
theorem b1H {c : Call} {k : FuncId} (hc : c.callee = .value (.func k)) (hok : (Op.call c).operands.toList.all iO = true) : vW P ⟨dst, .call c, type, pos, after, guard⟩ (.callF k (kR k) (c.args.toList.map iV)) := fun C H0 f l H v H1 hC hk hf hr => by
 have hr : (a3W f (c.args.toList.map iV) fun l => C.fn (kR k) k l H).Is v H1 := hr
 rw [a5R hf] at hr
 obtain ⟨h1 | hx, h2⟩ := hC.fn _ _ _ _ _ _ hk hr rfl
 case inr => exact ⟨.ext hok c (.func k) k #[] #[] rfl hc rfl (by simpa using hx), h2⟩
 obtain ⟨he, v', H', hcall, rfl, rfl⟩ := h1.fn
 exact ⟨.call hok c (.func k) k #[] #[] rfl hc rfl he (by simpa using hcall), h2⟩
theorem b3H {c : Call} {g : Operand} (hc : c.callee = .value g) (hok : (Op.call c).operands.toList.all iO = true) : vW P ⟨dst, .call c, type, pos, after, guard⟩ (.callV (iV g) (c.args.toList.map iV)) := fun C H0 f l H v H1 hC hk hf hr => by
 have hr : (a3W f (c.args.toList.map iV) fun l => a9Y C l H (mL f (iV g))).Is v H1 := hr
 rw [a5R hf, jT hf] at hr
 unfold a9Y at hr
 split at hr
 ·rename_i k a b hg
  rw [jZ, lJ] at hr
  obtain ⟨h1 | hx, h2⟩ := hC.fn _ _ _ _ _ _ hk hr rfl
  case inr => exact ⟨.ext hok c g k ⟨a⟩ ⟨b⟩ rfl hc hg (by simpa [yC] using hx), h2⟩
  obtain ⟨he, v', H', hcall, rfl, rfl⟩ := h1.fn
  exact ⟨.call hok c g k ⟨a⟩ ⟨b⟩ rfl hc hg he (by simpa [yC] using hcall), h2⟩
 ·rename_i L a b hg
  obtain ⟨h1, h2⟩ := hC.rd _ _ _ _ _ hk hr
  exact ⟨.round hok c g L _ _ rfl hc hg h1, h2⟩
 ·exact absurd hr Rs.ar
end
set_option maxHeartbeats 1000000 in
theorem b1j {α : Type} (o : Oper) (K : LOp → α) : ∃ lo, vW P o lo ∧ yA P o K = K lo := by
 unfold yA
 rw [kP]
 by_cases hok : o.op.operands.toList.all iO = true
 case neg => rw [if_neg hok]; exact ⟨_, b9k o, rfl⟩
 rw [if_pos hok]
 have gen : ∃ lo, vW P o lo ∧ K (.gen o) = K lo := ⟨_, (b8g o).low hok, rfl⟩
 obtain ⟨dst, op, type, pos, after, guard⟩ := o
 unfold c4r
 cases op with
 | move x => simp only [kZ]; exact ⟨_, (c1b x).low hok, rfl⟩
 | assign x => simp only [kZ]; exact ⟨_, (c2x x).low hok, rfl⟩
 | pick c a b => simp only [kZ]; exact ⟨_, (b6m c a b).low hok, rfl⟩
 | binOp op t x y yt =>
   simp only [kZ, kP]
   split
   ·split
    ·rename_i g hg; exact ⟨_, (b8S hg t yt x y).low hok, rfl⟩
    ·exact gen
   ·exact gen
 | load t x =>
   simp only [kZ]
   split
   ·rename_i ht
    cases hn : iF P t with
    | none => exact gen
    | some n => rw [pF]; exact ⟨_, (b9a ht hn x).low hok, rfl⟩
   ·rename_i ht; exact ⟨_, (b8R ht x).low hok, rfl⟩
   ·exact gen
 | store t x y =>
   simp only [kZ]
   cases hn : iF P t with
   | none => exact gen
   | some n => rw [pF]; exact ⟨_, (c1r hn x y).low hok, rfl⟩
 | fieldAddr s x k =>
   simp only [kZ]
   split
   ·rename_i fd hfd
    split
    ·exact gen
    ·rename_i n hn0 hn
     rw [jZ]
     exact ⟨_, (c1M hfd hn (fun e => hn0 e) x).low hok, rfl⟩
    ·exact gen
   ·exact gen
 | indexAddr t x i =>
   simp only [kZ]
   split
   ·rename_i elem ht
    cases hs : iF P elem with
    | none => exact gen
    | some n => rw [pF]; exact ⟨_, (b7w ht hs x i).low hok, rfl⟩
   ·rename_i n elem ht
    cases hs : iF P elem with
    | none => exact gen
    | some m => rw [pF]; exact ⟨_, (b9D ht hs x i).low hok, rfl⟩
   ·exact gen
 | extract t i => simp only [kZ]; rw [jZ]; exact ⟨_, (b9E i t).low hok, rfl⟩
 | call c =>
   simp only
   unfold b6R
   split
   ·rename_i k hc
    rw [lJ, a3o]
    exact ⟨_, b1H hc hok, rfl⟩
   ·rename_i g _ hc
    rw [kZ, a3o]
    exact ⟨_, b3H hc hok, rfl⟩
   ·rename_i hc
    rw [kP]
    split
    ·rename_i h1
     simp only [cU, beq_iff_eq] at h1
     split
     ·rename_i elem ht; rw [kZ]; exact ⟨_, (b7S hc h1.1 h1.2 ht).low hok, rfl⟩
     ·rename_i ht; rw [kZ]; exact ⟨_, (b4d hc h1.1 h1.2 ht).low hok, rfl⟩
     ·exact gen
    ·exact gen
   ·rename_i hc
    rw [kP]
    split
    ·rename_i h1
     simp only [cU, beq_iff_eq] at h1
     split
     ·rename_i elem he
      cases hs : iF P elem with
      | none => exact gen
      | some size =>
        rw [pF]
        cases hb : nQ P elem with
        | none => exact gen
        | some bytes =>
          rw [pF]
          split
          ·rename_i z hz
           rw [kP]
           split
           ·rename_i h2
            simp only [cU, beq_iff_eq, bne_iff_ne] at h2
            rw [jZ, kZ, kZ]
            exact ⟨_, (b8d hc h1.1.1 h1.1.2 h1.2 he hs hb hz h2.1 h2.2).low hok, rfl⟩
           ·exact gen
          ·exact gen
     ·exact gen
    ·exact gen
   ·exact gen
 | _ => exact gen
def DOk (k : Nat) (dst : Option Tmp) (d : Option Pth) : Prop := (dst = none ∧ d = none) ∨ ∃ t, dst = some t ∧ t < k ∧ d = some (kR t)
inductive LowOps (P : Program) (k : Nat) (ops : Array Oper) : List Oper → LOps → Prop
 | nil : LowOps P k ops [] .nil
 | cons {o : Oper} {os : List Oper} {d : Option Pth} {lo : LOp} {r : LOps} (hd : DOk k o.dst d) (ho : vW P o lo) (hg : o.guard = none) (hr : LowOps P k ops os r) : LowOps P k ops (o :: os) (.cons d lo r)
 | gcons {o : Oper} {os : List Oper} {d : Option Pth} {lo : LOp} {r : LOps} {j t : Nat} {w : Bool} (hd : DOk k o.dst d) (ho : vW P o lo) (hg : o.guard = some (j, w)) (ht : (ops[j]?).bind (·.dst) = some t) (htk : t < k) (hr : LowOps P k ops os r) : LowOps P k ops (o :: os) (.gcons (kR t) w d lo r)
def GOk (ops : Array Oper) (o : Oper) (g : Option (Pth × Bool)) : Prop := (o.guard = none ∧ g = none) ∨ ∃ j w t, o.guard = some (j, w) ∧ (ops[j]?).bind (·.dst) = some t ∧ g = some (kR t, w)
theorem GOk.runs {ops : Array Oper} {o : Oper} {g : Option (Pth × Bool)} (h : GOk ops o g) {f : Fr} {l : List Value} (hf : FAg f l) (hw : Region.wanted o (iU ops l) = true) : b4S f g = true := by
 rcases h with ⟨_, rfl⟩ | ⟨j, w, t, hg, ht, rfl⟩
 ·rfl
 ·simp only [Region.wanted, hg, iU, ht] at hw
  show isB (nZ (kR t) f) w = true
  rw [hf t, oI, cY]
  cases hl : l[t]? with
  | none => rw [hl] at hw; simp at hw
  | some v =>
    rw [hl] at hw
    cases v <;> simp at hw
    subst hw
    rename_i b
    cases b <;> rfl
inductive LowTab (P : Program) (ops : Array Oper) : List (Nat × Nat) → List (Nat × Option Nat × Option (Pth × Bool) × LOp) → Prop
 | nil : LowTab P ops [] []
 | cons {i m : Nat} {o : Oper} {lo : LOp} {tab : List (Nat × Nat)} {t : List (Nat × Option Nat × Option (Pth × Bool) × LOp)} {g : Option (Pth × Bool)} (ho : ops[i]? = some o) (hgd : GOk ops o g) (hl : vW P o lo) (hr : LowTab P ops tab t) :
    LowTab P ops ((i, m) :: tab) ((ops.size - 1 - i, if m < ops.size then some (ops.size - 1 - m) else none, g, lo) :: t)
inductive Low (P : Program) (k : Nat) : Code → LCode → Prop
 | bad (c : Code) : Low P k c .bad
 | skip : Low P k .skip .skip
 | label (t : Nat) : Low P k (.label t) .skip
 | reg {id : Nat} {ops : Array Oper} {d : Bool} {lo : LOps} (h : LowOps P k ops ops.toList lo) (hd : d = true → mY P ops = some []) : Low P k (.region id ops d) (.reg lo)
 | drw {id : Nat} {ops : Array Oper} {lo : LOps} {tab : List (Nat × Nat)} {t : List (Nat × Option Nat × Option (Pth × Bool) × LOp)} (h : LowOps P k ops ops.toList lo) (ht : mY P ops = some tab) (hl : LowTab P ops tab t) : Low P k (.region id ops true) (.drw lo t)
 | seq {a b : Code} {A B : LCode} (ha : Low P k a A) (hb : Low P k b B) : Low P k (.seq a b) (.seq A B)
 | cond {c : Operand} {x y : Code} {X Y : LCode} (hc : iO c = true) (hx : Low P k x X) (hy : Low P k y Y) : Low P k (.cond c x y) (.cond (iV c) X Y)
 | block {id : Nat} {b : Code} {B : LCode} (hb : Low P k b B) : Low P k (.block id b) (.block id B)
 | loop {b : Code} {B : LCode} (hb : Low P k b B) : Low P k (.loop b) (.loop B)
 | exit (id : Nat) : Low P k (.exit id) (.exit id)
 | ret : Low P k .ret .ret
 | range {g : Operand} {ps : Array Tmp} {assign body : Code} {A B : LCode} (hg : iO g = true) (hps : ∀ t ∈ ps.toList, t < k) (ha : Low P k assign A) (hb : Low P k body B) :
    Low P k (.rangeFunc g ps assign body) (.range (iV g) ((List.range k).map kR) (ps.toList.map kR) ps assign body A B)
section
variable {α : Type}
theorem b5w (k : Nat) (dst : Option Tmp) (no : α) (K : Option Pth → α) : (∃ d, DOk k dst d ∧ a6D k dst no K = K d) ∨ a6D k dst no K = no := by
 cases dst with
 | none => exact .inl ⟨none, .inl ⟨rfl, rfl⟩, rfl⟩
 | some t =>
   simp only [a6D, kP]
   split
   ·rename_i h
    rw [lJ]
    rw [blt_eq] at h
    exact .inl ⟨_, .inr ⟨t, rfl, by simpa using h, rfl⟩, rfl⟩
   ·exact .inr rfl
theorem a1I (k : Nat) (ops : Array Oper) (l : List Oper) (K : LOps → α) (no : α) : (∃ L, LowOps P k ops l L ∧ uO P k ops l K no = K L) ∨ uO P k ops l K no = no := by
 induction l generalizing K with
 | nil => exact .inl ⟨_, .nil, rfl⟩
 | cons o l ih =>
   let K2 : Option Pth → LOp → α := fun d o' => match o.guard with
    | none => uO P k ops l (fun r => K (.cons d o' r)) no
    | some (j, w) => match (ops[j]?).bind (·.dst) with
      | some t => nY (Nat.blt t k) no (lL (kR t) fun p => a0c w fun w => uO P k ops l (fun r => K (.gcons p w d o' r)) no)
      | none => no
   have e : uO P k ops (o :: l) K no = a6D k o.dst no fun d => yA P o fun o' => K2 d o' := rfl
   rw [e]
   rcases b5w k o.dst no (fun d => yA P o fun o' => K2 d o') with ⟨d, hd, h1⟩ | h1
   ·rw [h1]
    obtain ⟨lo, hlo, h2⟩ := b1j (P := P) o (fun o' => K2 d o')
    rw [h2]
    simp only [K2]
    split
    ·rename_i hg
     rcases ih (fun r => K (.cons d lo r)) with ⟨L, hL, h3⟩ | h3
     ·exact .inl ⟨_, .cons hd hlo hg hL, h3⟩
     ·exact .inr h3
    ·rename_i j w hg
     split
     ·rename_i t ht
      rw [kP]
      split
      ·rename_i htk
       rw [lJ, vH]
       rw [blt_eq] at htk
       rcases ih (fun r => K (.gcons (kR t) w d lo r)) with ⟨L, hL, h3⟩ | h3
       ·exact .inl ⟨_, .gcons hd hlo hg ht (by simpa using htk) hL, h3⟩
       ·exact .inr h3
      ·exact .inr rfl
     ·exact .inr rfl
   ·exact .inr h1
theorem c0V (k : Nat) (ops : Array Oper) (o : Oper) (no : α) (K : Option (Pth × Bool) → α) : (∃ g, GOk ops o g ∧ loG k ops o.guard no K = K g) ∨ loG k ops o.guard no K = no := by
 cases hg : o.guard with
 | none => exact .inl ⟨none, .inl ⟨hg, rfl⟩, rfl⟩
 | some x =>
   obtain ⟨j, w⟩ := x
   unfold loG
   cases ht : (ops[j]?).bind (·.dst) with
   | none => exact .inr (by simp only [ht])
   | some t =>
     simp only [ht, kP]
     split
     ·refine .inl ⟨some (kR t, w), .inr ⟨j, w, t, hg, ht, rfl⟩, ?_⟩
      rw [lJ, vH]
     ·exact .inr rfl
theorem b5k (k : Nat) (ops : Array Oper) (tab : List (Nat × Nat)) (K : List (Nat × Option Nat × Option (Pth × Bool) × LOp) → α) (no : α) : (∃ t, LowTab P ops tab t ∧ tS P k ops ops.size tab K no = K t) ∨ tS P k ops ops.size tab K no = no := by
 induction tab generalizing K with
 | nil => exact .inl ⟨_, .nil, rfl⟩
 | cons x tab ih =>
   obtain ⟨i, m⟩ := x
   cases ho : ops[i]? with
   | none =>
     refine .inr ?_
     show (match ops[i]? with
      | some o => _
      | none => no) = no
     rw [ho]
   | some o =>
     let K2 : Option (Pth × Bool) → LOp → α := fun g o' => kF (ops.size - 1 - i) fun i => nY (Nat.blt m ops.size) (tS P k ops ops.size tab (fun l => K ((i, none, g, o') :: l)) no) (kF (ops.size - 1 - m) fun m => tS P k ops ops.size tab (fun l => K ((i, some m, g, o') :: l)) no)
     have e : tS P k ops ops.size ((i, m) :: tab) K no = loG k ops o.guard no fun g => yA P o fun o' => K2 g o' := by
      show (match ops[i]? with
       | some o => loG k ops o.guard no fun g => yA P o fun o' => K2 g o'
       | none => no) = _
      rw [ho]
     rw [e]
     rcases c0V k ops o no (fun g => yA P o fun o' => K2 g o') with ⟨g, hgd, h1⟩ | h1
     ·rw [h1]
      obtain ⟨lo, hlo, h2⟩ := b1j (P := P) o (fun o' => K2 g o')
      rw [h2]
      show (∃ t, _ ∧ kF (ops.size - 1 - i) (fun i => nY (Nat.blt m ops.size) (tS P k ops ops.size tab (fun l => K ((i, none, g, lo) :: l)) no) (kF (ops.size - 1 - m) fun m => tS P k ops ops.size tab (fun l => K ((i, some m, g, lo) :: l)) no)) = K t) ∨ kF (ops.size - 1 - i) (fun i => nY (Nat.blt m ops.size) (tS P k ops ops.size tab (fun l => K ((i, none, g, lo) :: l)) no) (kF (ops.size - 1 - m) fun m => tS P k ops ops.size tab (fun l => K ((i, some m, g, lo) :: l)) no)) = no
      rw [jZ, kP, jZ, blt_eq]
      by_cases hm : m < ops.size
      ·rw [if_pos (by simpa using hm)]
       rcases ih (fun l => K ((ops.size - 1 - i, some (ops.size - 1 - m), g, lo) :: l)) with ⟨t, ht, h3⟩ | h3
       ·have := LowTab.cons (m := m) ho hgd hlo ht
        rw [if_pos hm] at this
        exact .inl ⟨_, this, h3⟩
       ·exact .inr h3
      ·rw [if_neg (by simpa using hm)]
       rcases ih (fun l => K ((ops.size - 1 - i, none, g, lo) :: l)) with ⟨t, ht, h3⟩ | h3
       ·have := LowTab.cons (m := m) ho hgd hlo ht
        rw [if_neg hm] at this
        exact .inl ⟨_, this, h3⟩
       ·exact .inr h3
     ·exact .inr h1
theorem b3o (k : Nat) (l : List Tmp) (K : List Pth → α) (no : α) : ((∀ t ∈ l, t < k) ∧ xE k l K no = K (l.map kR)) ∨ xE k l K no = no := by
 induction l generalizing K with
 | nil => exact .inl ⟨by simp, rfl⟩
 | cons t l ih =>
   show _ ∨ nY (Nat.blt t k) no (lL (kR t) fun p => xE k l (fun l => K (p :: l)) no) = no
   have e : xE k (t :: l) K no = nY (Nat.blt t k) no (lL (kR t) fun p => xE k l (fun l => K (p :: l)) no) := rfl
   rw [e, kP, lJ, blt_eq]
   by_cases h : t < k
   ·rw [if_pos (by simpa using h)]
    rcases ih (fun l => K (kR t :: l)) with ⟨h1, h2⟩ | h2
    ·exact .inl ⟨by simpa using ⟨h, h1⟩, h2⟩
    ·exact .inr h2
   ·rw [if_neg (by simpa using h)]; exact .inr rfl
theorem b3m (k : Nat) (c : Code) (K : LCode → α) : ∃ C, Low P k c C ∧ nB P k c K = K C := by
 induction c generalizing K with
 | skip => exact ⟨_, .skip, rfl⟩
 | region id ops d =>
   cases d with
   | false =>
     show ∃ C, _ ∧ uO P k ops ops.toList (fun l => K (.reg l)) (K .bad) = K C
     rcases a1I (P := P) k ops ops.toList (fun l => K (.reg l)) (K .bad) with ⟨L, hL, h⟩ | h
     ·exact ⟨_, .reg hL (fun h => by cases h), h⟩
     ·exact ⟨_, .bad _, h⟩
   | true =>
     show ∃ C, _ ∧ (match mY P ops with
      | some [] => uO P k ops ops.toList (fun l => K (.reg l)) (K .bad)
      | some tab => uO P k ops ops.toList (fun l => tS P k ops ops.size tab (fun t => K (.drw l t)) (K .bad)) (K .bad)
      | none => K .bad) = K C
     split
     ·rename_i hd
      rcases a1I (P := P) k ops ops.toList (fun l => K (.reg l)) (K .bad) with ⟨L, hL, h⟩ | h
      ·exact ⟨_, .reg hL (fun _ => hd), h⟩
      ·exact ⟨_, .bad _, h⟩
     ·rename_i tab _ hd
      rcases a1I (P := P) k ops ops.toList (fun l => tS P k ops ops.size tab (fun t => K (.drw l t)) (K .bad)) (K .bad) with ⟨L, hL, h⟩ | h
      ·rw [h]
       rcases b5k (P := P) k ops tab (fun t => K (.drw L t)) (K .bad) with ⟨t, ht, h2⟩ | h2
       ·exact ⟨_, .drw hL hd ht, h2⟩
       ·exact ⟨_, .bad _, h2⟩
      ·exact ⟨_, .bad _, h⟩
     ·exact ⟨_, .bad _, rfl⟩
 | seq a b iha ihb =>
   show ∃ C, _ ∧ nB P k a (fun a => nB P k b fun b => K (.seq a b)) = K C
   obtain ⟨A, hA, h1⟩ := iha (fun a => nB P k b fun b => K (.seq a b))
   obtain ⟨B, hB, h2⟩ := ihb (fun b => K (.seq A b))
   exact ⟨_, .seq hA hB, h1.trans h2⟩
 | cond c x y ihx ihy =>
   show ∃ C, _ ∧ nY (iO c) (K .bad) (lP c fun c => nB P k x fun x => nB P k y fun y => K (.cond c x y)) = K C
   rw [kP]
   split
   ·rename_i hc
    rw [kZ]
    obtain ⟨X, hX, h1⟩ := ihx (fun x => nB P k y fun y => K (.cond (iV c) x y))
    obtain ⟨Y, hY, h2⟩ := ihy (fun y => K (.cond (iV c) X y))
    exact ⟨_, .cond hc hX hY, h1.trans h2⟩
   ·exact ⟨_, .bad _, rfl⟩
 | block id b ih =>
   show ∃ C, _ ∧ kF id (fun id => nB P k b fun b => K (.block id b)) = K C
   rw [jZ]
   obtain ⟨B, hB, h1⟩ := ih (fun b => K (.block id b))
   exact ⟨_, .block hB, h1⟩
 | loop b ih =>
   show ∃ C, _ ∧ nB P k b (fun b => K (.loop b)) = K C
   obtain ⟨B, hB, h1⟩ := ih (fun b => K (.loop b))
   exact ⟨_, .loop hB, h1⟩
 | rangeFunc g ps assign body iha ihb =>
   show ∃ C, _ ∧ nY (iO g) (K .bad) (lP g fun g' => b2J k fun pp => xE k ps.toList (fun q => nB P k assign fun a => nB P k body fun b => K (.range g' pp q ps assign body a b)) (K .bad)) = K C
   rw [kP]
   split
   ·rename_i hg
    rw [kZ, b0V]
    rcases b3o k ps.toList (fun q => nB P k assign fun a => nB P k body fun b => K (.range (iV g) ((List.range k).map kR) q ps assign body a b)) (K .bad) with ⟨hps, h⟩ | h
    ·obtain ⟨A, hA, h1⟩ := iha (fun a => nB P k body fun b => K (.range (iV g) ((List.range k).map kR) (ps.toList.map kR) ps assign body a b))
     obtain ⟨B, hB, h2⟩ := ihb (fun b => K (.range (iV g) ((List.range k).map kR) (ps.toList.map kR) ps assign body A b))
     exact ⟨_, .range hg hps hA hB, h.trans (h1.trans h2)⟩
    ·exact ⟨_, .bad _, h⟩
   ·exact ⟨_, .bad _, rfl⟩
 | exit id =>
   show ∃ C, _ ∧ kF id (fun id => K (.exit id)) = K C
   rw [jZ]
   exact ⟨_, .exit id, rfl⟩
 | label t => exact ⟨_, .label t, rfl⟩
 | ret => exact ⟨_, .ret, rfl⟩
 | scope b _ => exact ⟨_, .bad _, rfl⟩
 | goto t => exact ⟨_, .bad _, rfl⟩
 | refuse w => exact ⟨_, .bad _, rfl⟩
end
theorem vK {α : Type} {k : Nat} {f : Fr} {l : List Value} (h : FRel k f l) {dst : Option Tmp} {d : Option Pth} (hd : DOk k dst d) (v : Value) (K : Fr → α) : ∃ f', uH d v f K = K f' ∧ FRel k f' (put l dst v) := by
 rcases hd with ⟨rfl, rfl⟩ | ⟨t, rfl, ht, rfl⟩
 ·exact ⟨f, rfl, h⟩
 ·exact ⟨b6l f t v, sP v (kR t) f K, h.put ht v⟩
theorem yI {ops : Array Oper} {l : List Value} {j t : Nat} (ht : (ops[j]?).bind (·.dst) = some t) (htl : t < l.length) (w : Bool) : (iU ops l j == some w) = isB (get l t) w := by
 have hg : get l t = l[t] := by rw [oI]; simp [htl]
 unfold iU
 rw [ht, hg]
 simp only [dm htl]
 cases hv : l[t] <;> simp [isB]
 rename_i b
 cases b <;> cases w <;> rfl
theorem b8l {k : Nat} {ops : Array Oper} {C : Calls'} {H0 : Heap} (hC : CallsOk P C H0) {os : List Oper} {lo : LOps} (hlo : LowOps P k ops os lo) : ∀ {i : Nat}, ops.toList.drop i = os → ∀ {f : Fr} {l : List Value} {H : Heap} {f1 : Fr} {H1 : Heap},
 FRel k f l → LK H0 H → zG P C lo f H = .ok f1 H1 → ∃ l1, FRel k f1 l1 ∧ OpsR P ops (List.range' i os.length) l H l1 H1 ∧ LK H H1 := by
 induction hlo with
 | nil =>
   intro i _ f l H f1 H1 hf _ h
   injection h with h1 h2
   subst h1 h2
   exact ⟨l, hf, .nil l H, .refl H⟩
 | @cons o os d lo r hd ho hg hr ih =>
   intro i hi f l H f1 H1 hf hk h
   have hio : ops[i]? = some o := by
    have : (ops.toList.drop i)[0]? = some o := by rw [hi]; rfl
    rw [dE] at this
    simpa using this
   have hi' : ops.toList.drop (i + 1) = os := by rw [← fq, hi]; rfl
   have hw : Region.wanted o (iU ops l) = true := by simp [Region.wanted, hg]
   have h : b0N Rf.no d f (zG P C r) (opF P C lo f H) = .ok f1 H1 := h
   have key : ∀ v H2, (opF P C lo f H).Is v H2 → (uH d v f fun f => zG P C r f H2) = .ok f1 H1 → ∃ l1, FRel k f1 l1 ∧ OpsR P ops (List.range' i (o :: os).length) l H l1 H1 ∧ LK H H1 := by
    intro v H2 hop hrest
    obtain ⟨hs, hk2⟩ := ho C H0 f l H v H2 hC hk hf.2 hop
    obtain ⟨f', e, hf'⟩ := vK hf hd v (fun f => zG P C r f H2)
    rw [e] at hrest
    obtain ⟨l1, h1, h2, h3⟩ := ih hi' hf' (hk.trans hk2) hrest
    exact ⟨l1, h1, .step hio hw hs h2, hk2.trans h3⟩
   cases hop : opF P C lo f H with
   | no => rw [hop] at h; cases h
   | ok v H2 => rw [hop] at h; exact key v H2 (.inl hop) h
   | th v H2 =>
     rw [hop] at h
     have h : yB v (fun v => nR H2 fun H2 => uH d v f fun f => zG P C r f H2) = .ok f1 H1 := h
     rw [yW, lY] at h
     exact key v H2 (.inr hop) h
 | @gcons o os d lo r j t w hd ho hg ht htk hr ih =>
   intro i hi f l H f1 H1 hf hk h
   have hio : ops[i]? = some o := by
    have : (ops.toList.drop i)[0]? = some o := by rw [hi]; rfl
    rw [dE] at this
    simpa using this
   have hi' : ops.toList.drop (i + 1) = os := by rw [← fq, hi]; rfl
   have hwi : Region.wanted o (iU ops l) = isB (nZ (kR t) f) w := by
    simp only [Region.wanted, hg]
    rw [yI ht (by rw [hf.1]; exact htk) w, hf.2 t]
   have h : nY (isB (nZ (kR t) f) w) (uH d undef f fun f => zG P C r f H) (b0N Rf.no d f (zG P C r) (opF P C lo f H)) = .ok f1 H1 := h
   rw [kP] at h
   split at h
   ·rename_i hb
    have key : ∀ v H2, (opF P C lo f H).Is v H2 → (uH d v f fun f => zG P C r f H2) = .ok f1 H1 → ∃ l1, FRel k f1 l1 ∧ OpsR P ops (List.range' i (o :: os).length) l H l1 H1 ∧ LK H H1 := by
     intro v H2 hop hrest
     obtain ⟨hs, hk2⟩ := ho C H0 f l H v H2 hC hk hf.2 hop
     obtain ⟨f', e, hf'⟩ := vK hf hd v (fun f => zG P C r f H2)
     rw [e] at hrest
     obtain ⟨l1, h1, h2, h3⟩ := ih hi' hf' (hk.trans hk2) hrest
     exact ⟨l1, h1, .step hio (by rw [hwi, hb]) hs h2, hk2.trans h3⟩
    cases hop : opF P C lo f H with
    | no => rw [hop] at h; cases h
    | ok v H2 => rw [hop] at h; exact key v H2 (.inl hop) h
    | th v H2 =>
      rw [hop] at h
      have h : yB v (fun v => nR H2 fun H2 => uH d v f fun f => zG P C r f H2) = .ok f1 H1 := h
      rw [yW, lY] at h
      exact key v H2 (.inr hop) h
   ·rename_i hb
    obtain ⟨f', e, hf'⟩ := vK hf hd undef (fun f => zG P C r f H)
    rw [e] at h
    obtain ⟨l1, h1, h2, h3⟩ := ih hi' hf' hk h
    exact ⟨l1, h1, .past hio (by rw [hwi]; simpa using hb) h2, h3⟩
structure Noted (P : Program) (k : Nat) (ops : Array Oper) (H : Heap) (i n : Nat) (T : Nat → List Value × Heap) (val : Nat → Value) (tr0 tr : List (Fr × Heap × Value)) : Prop where
 step : ∀ j, i ≤ j → j < i + n → vX P ops j (T j) (T (j + 1)) (val j)
 new : ∀ j, i ≤ j → j < i + n → ∃ g, tr[i + n - 1 - j]? = some (g, (T j).2, val j) ∧ FAg g (T j).1
 old : ∀ m, tr[n + m]? = tr0[m]?
 lk : ∀ j, i ≤ j → j ≤ i + n → LK H (T j).2
theorem b5J {k : Nat} {ops : Array Oper} {C : Calls'} {H0 : Heap} (hC : CallsOk P C H0) {os : List Oper} {lo : LOps} (hlo : LowOps P k ops os lo) : ∀ {i : Nat}, ops.toList.drop i = os → ∀ {tr0 tr : List (Fr × Heap × Value)} {f : Fr} {l : List Value} {H : Heap} {f1 : Fr} {H1 : Heap},
 FRel k f l → LK H0 H → rD P C lo tr0 f H = .ok tr f1 H1 → ∃ T val l1, T i = (l, H) ∧ T (i + os.length) = (l1, H1) ∧ FRel k f1 l1 ∧ Noted P k ops H i os.length T val tr0 tr := by
 have more : ∀ {i n : Nat} {o : Oper} {tr0 tr : List (Fr × Heap × Value)} {f : Fr} {l : List Value} {H : Heap} {v : Value} {l2 : List Value} {H2 : Heap} {l1 : List Value} {H1 : Heap} {f1 : Fr}, FRel k f l → vX P ops i (l, H) (l2, H2) v → LK H H2 →
  (∃ T val l1, T (i + 1) = (l2, H2) ∧ T (i + 1 + n) = (l1, H1) ∧ FRel k f1 l1 ∧ Noted P k ops H2 (i + 1) n T val ((f, H, v) :: tr0) tr) →
  ∃ T val l1, T i = (l, H) ∧ T (i + (n + 1)) = (l1, H1) ∧ FRel k f1 l1 ∧ Noted P k ops H i (n + 1) T val tr0 tr := by
  intro i n o tr0 tr f l H v l2 H2 _ H1 f1 hf hst hk ⟨T, val, l1, h1, h2, h3, hN⟩
  refine ⟨fun j => if j ≤ i then (l, H) else T j, fun j => if j ≤ i then v else val j, l1, by simp, ?_, h3, ?_⟩
  ·show (if i + (n + 1) ≤ i then (l, H) else T (i + (n + 1))) = _
   rw [if_neg (by omega), ← h2]; congr 1; omega
  ·refine ⟨fun j hj hn => ?_, fun j hj hn => ?_, fun m => ?_, fun j hj hn => ?_⟩
   ·by_cases he : j = i
    ·subst he
     simp only [dg, if_true]
     rw [if_neg (by omega), h1]
     exact hst
    ·rw [if_neg (by omega), if_neg (by omega), if_neg (by omega)]
     exact hN.step j (by omega) (by omega)
   ·by_cases he : j = i
    ·subst he
     simp only [dg, if_true]
     refine ⟨f, ?_, hf.2⟩
     have := hN.old 0
     rw [show j + (n + 1) - 1 - j = n + 0 by omega, this]; rfl
    ·rw [if_neg (by omega), if_neg (by omega)]
     obtain ⟨g, hg, hag⟩ := hN.new j (by omega) (by omega)
     exact ⟨g, by rw [← hg]; congr 1; omega, hag⟩
   ·have := hN.old (m + 1)
    rw [show n + 1 + m = n + (m + 1) by omega, this]; rfl
   ·by_cases he : j = i
    ·subst he; simp only [dg, if_true]; exact .refl H
    ·rw [if_neg (by omega)]; exact hk.trans (hN.lk j (by omega) (by omega))
 induction hlo with
 | nil =>
   intro i _ tr0 tr f l H f1 H1 hf _ h
   injection h with h1 h2 h3
   subst h1 h2 h3
   exact ⟨fun _ => (l, H), fun _ => undef, l, rfl, rfl, hf, fun j _ h => absurd h (by simp; omega), fun j _ h => absurd h (by simp; omega), fun m => by simp, fun _ _ _ => .refl H⟩
 | @cons o os d lo r hd ho hg hr ih =>
   intro i hi tr0 tr f l H f1 H1 hf hk h
   have hio : ops[i]? = some o := by
    have : (ops.toList.drop i)[0]? = some o := by rw [hi]; rfl
    rw [dE] at this
    simpa using this
   have hi' : ops.toList.drop (i + 1) = os := by rw [← fq, hi]; rfl
   have hw : Region.wanted o (iU ops l) = true := by simp [Region.wanted, hg]
   have h : b1a tr0 f H d (rD P C r) (opF P C lo f H) = .ok tr f1 H1 := h
   have key : ∀ v H2, (opF P C lo f H).Is v H2 → (uH d v f fun f2 => rD P C r ((f, H, v) :: tr0) f2 H2) = .ok tr f1 H1 → ∃ T val l1, T i = (l, H) ∧ T (i + (o :: os).length) = (l1, H1) ∧ FRel k f1 l1 ∧ Noted P k ops H i (o :: os).length T val tr0 tr := by
    intro v H2 hop hrest
    obtain ⟨hs, hk2⟩ := ho C H0 f l H v H2 hC hk hf.2 hop
    obtain ⟨f', e, hf'⟩ := vK hf hd v (fun f2 => rD P C r ((f, H, v) :: tr0) f2 H2)
    rw [e] at hrest
    have := ih hi' hf' (hk.trans hk2) hrest
    exact more (o := o) (l1 := l) hf ⟨o, hio, rfl, .inl ⟨hw, hs⟩⟩ hk2 this
   cases hop : opF P C lo f H with
   | no => rw [hop] at h; cases h
   | ok v H2 => rw [hop] at h; exact key v H2 (.inl hop) h
   | th v H2 =>
     rw [hop] at h
     have h : yB v (fun v => nR H2 fun H2 => uH d v f fun f2 => rD P C r ((f, H, v) :: tr0) f2 H2) = .ok tr f1 H1 := h
     rw [yW, lY] at h
     exact key v H2 (.inr hop) h
 | @gcons o os d lo r j t w hd ho hg ht htk hr ih =>
   intro i hi tr0 tr f l H f1 H1 hf hk h
   have hio : ops[i]? = some o := by
    have : (ops.toList.drop i)[0]? = some o := by rw [hi]; rfl
    rw [dE] at this
    simpa using this
   have hi' : ops.toList.drop (i + 1) = os := by rw [← fq, hi]; rfl
   have hwi : Region.wanted o (iU ops l) = isB (nZ (kR t) f) w := by
    simp only [Region.wanted, hg]
    rw [yI ht (by rw [hf.1]; exact htk) w, hf.2 t]
   have h : nY (isB (nZ (kR t) f) w) (uH d undef f fun f2 => rD P C r ((f, H, undef) :: tr0) f2 H) (b1a tr0 f H d (rD P C r) (opF P C lo f H)) = .ok tr f1 H1 := h
   rw [kP] at h
   split at h
   ·rename_i hb
    have key : ∀ v H2, (opF P C lo f H).Is v H2 → (uH d v f fun f2 => rD P C r ((f, H, v) :: tr0) f2 H2) = .ok tr f1 H1 → ∃ T val l1, T i = (l, H) ∧ T (i + (o :: os).length) = (l1, H1) ∧ FRel k f1 l1 ∧ Noted P k ops H i (o :: os).length T val tr0 tr := by
     intro v H2 hop hrest
     obtain ⟨hs, hk2⟩ := ho C H0 f l H v H2 hC hk hf.2 hop
     obtain ⟨f', e, hf'⟩ := vK hf hd v (fun f2 => rD P C r ((f, H, v) :: tr0) f2 H2)
     rw [e] at hrest
     exact more (o := o) (l1 := l) hf ⟨o, hio, rfl, .inl ⟨by rw [hwi, hb], hs⟩⟩ hk2 (ih hi' hf' (hk.trans hk2) hrest)
    cases hop : opF P C lo f H with
    | no => rw [hop] at h; cases h
    | ok v H2 => rw [hop] at h; exact key v H2 (.inl hop) h
    | th v H2 =>
      rw [hop] at h
      have h : yB v (fun v => nR H2 fun H2 => uH d v f fun f2 => rD P C r ((f, H, v) :: tr0) f2 H2) = .ok tr f1 H1 := h
      rw [yW, lY] at h
      exact key v H2 (.inr hop) h
   ·rename_i hb
    obtain ⟨f', e, hf'⟩ := vK hf hd undef (fun f2 => rD P C r ((f, H, undef) :: tr0) f2 H)
    rw [e] at h
    exact more (o := o) (l1 := l) hf ⟨o, hio, rfl, .inr ⟨by rw [hwi]; simpa using hb, rfl, rfl⟩⟩ (.refl H) (ih hi' hf' hk h)
theorem b0Q {α : Type} (p : α → Bool) (l : List α) : b5N p l = l.all p := by
 induction l with
 | nil => rfl
 | cons x l ih =>
   show nY (p x) false (b5N p l) = _
   rw [kP, ih, fm]
   cases p x <;> rfl
theorem b7X {v : Value} {r : Rs} (h : b7N v r = true) : ∃ H, r.Is v H := by
 cases r with
 | no => cases h
 | ok w H => exact ⟨H, .inl (by rw [b6c (show veq w v = true from h)])⟩
 | th w H => exact ⟨H, .inr (by rw [b6c (show veq w v = true from h)])⟩
theorem LowTab.get {ops : Array Oper} {tab : List (Nat × Nat)} {t : List (Nat × Option Nat × Option (Pth × Bool) × LOp)} (h : LowTab P ops tab t) {i m : Nat} (hm : (i, m) ∈ tab) : ∃ o lo g, ops[i]? = some o ∧ GOk ops o g ∧ vW P o lo ∧ (ops.size - 1 - i, (if m < ops.size then some (ops.size - 1 - m) else none), g, lo) ∈ t := by
 induction h with
 | nil => cases hm
 | @cons i2 m2 o lo tab t g ho hgd hl hr ih =>
   rcases dU.1 hm with he | hm
   ·injection he with h1 h2
    subst h1 h2
    exact ⟨o, lo, g, ho, hgd, hl, by simp⟩
   ·obtain ⟨o', lo', g', h1, h0, h2, h3⟩ := ih hm
    exact ⟨o', lo', g', h1, h0, h2, dP _ h3⟩
theorem b0j {fl : Fl} {ops : Array Oper} {i m : Nat} (h : (i, m) ∈ mI fl ops) {o : Oper} (ho : ops[i]? = some o) : nP o.op = true := by
 unfold mI at h
 simp only [dT] at h
 obtain ⟨⟨x, j⟩, hx, h⟩ := h
 dsimp only at h
 split at h
 ·rename_i hr
  simp only [dx] at h
  obtain ⟨m', _, e⟩ := h
  injection e with e1 e2
  subst e1
  have := gk.1 hx
  have : ops[j]? = some x := by simpa using this
  rw [this] at ho
  injection ho with ho
  subst ho
  exact hr
 ·cases h
theorem b8L (kC : P.follows .mixedOrders = true) {k id : Nat} {ops : Array Oper} {C : Calls'} {H : Heap} (hC : CallsOk P C H) {lo : LOps} {tab : List (Nat × Nat)} {t : List (Nat × Option Nat × Option (Pth × Bool) × LOp)} (hlo : LowOps P k ops ops.toList lo) (htab : mY P ops = some tab) (hl : LowTab P ops tab t)
 {f : Fr} {l : List Value} {e : Ex} {f1 : Fr} {H1 : Heap} (hf : FRel k f l) (h : c0g P C t (rD P C lo [] f H) = .ok e f1 H1) : ∃ l1, e = .normal ∧ FRel k f1 l1 ∧ Sim P (.region id ops true) l H .normal l1 H1 ∧ LK H H1 := by
 cases hr : rD P C lo [] f H with
 | no => rw [hr] at h; cases h
 | ok tr f2 H2 =>
   rw [hr] at h
   have h : nY (b5N (b5e P C tr H2) t) Rc.no (.ok .normal f2 H2) = .ok e f1 H1 := h
   rw [kP] at h
   split at h
   case isFalse => cases h
   rename_i hall
   injection h with h1 h2 h3
   subst h1 h2 h3
   obtain ⟨T, val, l1, hT0, hTn, hf1, hN⟩ := b5J hC hlo (i := 0) rfl hf (.refl H) hr
   rw [fw, fP] at hTn
   rw [fw] at hN
   have hlk : LK H H2 := by have := hN.lk ops.size (eT _) (by omega); rwa [hTn] at this
   refine ⟨l1, rfl, hf1, ?_, hlk⟩
   have := Sim.draw kC (id := id) htab (T := T) (val := val) ⟨fun j hj => hN.step j (eT _) (by omega)⟩ ?_
   ·rw [hT0, hTn] at this; exact this
   ·intro i m o hm ho hw
    obtain ⟨o', lo', gd, ho', hgd, hlow, hmem⟩ := hl.get hm
    rw [ho] at ho'
    obtain rfl := cT ho'
    rw [b0Q, dp] at hall
    have hrd := hall _ hmem
    have hi : i < ops.size := (dc.1 ho).1
    obtain ⟨g, hg, hag⟩ := hN.new i (eT _) (by omega)
    have hg : tr[ops.size - 1 - i]? = some (g, (T i).2, val i) := by rw [← hg]; congr 1; omega
    have hread : nP o.op = true := by
     obtain ⟨fl, _, rfl⟩ := pZ htab
     exact b0j hm ho
    have fin : ∀ H3, LK H H3 → b7N (val i) (opF P C lo' g H3) = true → ∃ H4, opD P o (T i).1 H3 = some (val i, H4) := by
     intro H3 hk3 hq
     obtain ⟨H4, h4⟩ := b7X hq
     obtain ⟨hs, _⟩ := hlow C H g (T i).1 H3 (val i) H4 hC hk3 hag h4
     refine ⟨H4, hs.opD fun c fv hc hv => ?_⟩
     rw [hc] at hread
     simp [nP, hv] at hread
    unfold b5e at hrd
    simp only [xQ, hg, hgd.runs hag hw] at hrd
    rw [kP, if_pos rfl] at hrd
    by_cases hms : m < ops.size
    ·rw [if_pos hms] at hrd
     obtain ⟨g2, hg2, _⟩ := hN.new m (eT _) (by omega)
     have hg2 : tr[ops.size - 1 - m]? = some (g2, (T m).2, val m) := by rw [← hg2]; congr 1; omega
     simp only [hg2] at hrd
     exact fin _ (hN.lk m (eT _) (by omega)) hrd
    ·rw [if_neg hms] at hrd
     have hle : m = ops.size := by
      obtain ⟨fl, _, rfl⟩ := pZ htab
      have := a2p hm
      omega
     subst hle
     have := fin H2 hlk hrd
     rw [hTn]; exact this
def uG (P : Program) : List ResultVar → List LRes → Prop
 | [], [] => True
 | r :: rs, l :: ls => (match r, l with
   | .tmp t, .t p => p = kR t
   | .cell a t, .c1 p => p = kR a ∧ jR P t = some false
   | .cell a t, .cn n p => p = kR a ∧ jR P t = some true ∧ iF P t = some n
   | _, _ => False) ∧ uG P rs ls
 | _, _ => False
theorem b5i {α : Type} (l : List ResultVar) (K : List LRes → α) (no : α) : (∃ r, uG P l r ∧ a0O P l K no = K r) ∨ a0O P l K no = no := by
 induction l generalizing K with
 | nil => exact .inl ⟨[], trivial, rfl⟩
 | cons r l ih =>
   cases r with
   | tmp t =>
     have e : a0O P (.tmp t :: l) K no = lL (kR t) fun p => a0O P l (fun l => K (.t p :: l)) no := rfl
     rw [e, lJ]
     rcases ih (fun l => K (.t (kR t) :: l)) with ⟨q, h1, h2⟩ | h2
     ·exact .inl ⟨.t (kR t) :: q, ⟨rfl, h1⟩, h2⟩
     ·exact .inr h2
   | cell a t =>
     have e : a0O P (.cell a t :: l) K no = match jR P t with
      | some true => a2S (iF P t) no fun n => lL (kR a) fun p => a0O P l (fun l => K (.cn n p :: l)) no
      | some false => lL (kR a) fun p => a0O P l (fun l => K (.c1 p :: l)) no
      | none => no := rfl
     rw [e]
     split
     ·rename_i ha
      cases hn : iF P t with
      | none => exact .inr rfl
      | some n =>
        rw [pF, lJ]
        rcases ih (fun l => K (.cn n (kR a) :: l)) with ⟨q, h1, h2⟩ | h2
        ·exact .inl ⟨.cn n (kR a) :: q, ⟨⟨rfl, ha, hn⟩, h1⟩, h2⟩
        ·exact .inr h2
     ·rename_i ha
      rw [lJ]
      rcases ih (fun l => K (.c1 (kR a) :: l)) with ⟨q, h1, h2⟩ | h2
      ·exact .inl ⟨.c1 (kR a) :: q, ⟨⟨rfl, ha⟩, h1⟩, h2⟩
      ·exact .inr h2
     ·exact .inr rfl
theorem b0A {H H1 : Heap} {f : Fr} {l : List Value} (hf : FAg f l) {r : ResultVar} {q : LRes} {rs : List ResultVar} {qs : List LRes} (h : uG P (r :: rs) (q :: qs)) {v : Value} (hv : (a4h H f q).Is v H1) : H1 = H ∧ a1n P l H r = some v ∧ uG P rs qs := by
 obtain ⟨h, hr⟩ := h
 cases r with
 | tmp t => cases q with
   | t p =>
     have h : p = kR t := h
     subst h
     have hv : (oO (nZ (kR t) f) fun v => Rs.ok v H).Is v H1 := hv
     rw [mO] at hv
     obtain ⟨rfl, rfl⟩ := Rs.aL hv
     exact ⟨rfl, by rw [hf t]; rfl, hr⟩
   | c1 p => exact h.elim
   | cn n p => exact h.elim
 | cell a t => cases q with
   | t p => exact h.elim
   | c1 p =>
     obtain ⟨rfl, ha⟩ := h
     obtain ⟨e, h1⟩ := b1d (P := P) (X := .t (kR a)) (w := get l a) ha (hf a) hv
     exact ⟨e, h1, hr⟩
   | cn n p =>
     obtain ⟨rfl, ha, hn⟩ := h
     obtain ⟨e, h1⟩ := b0R (P := P) (X := .t (kR a)) (w := get l a) ha hn (hf a) hv
     exact ⟨e, h1, hr⟩
theorem b9H {H : Heap} {f : Fr} {q : LRes} {v : Value} {H1 : Heap} : ¬ (a4h H f q = .th v H1) := by
 intro h
 cases q with
 | t p =>
   have h : (oO (nZ p f) fun v => Rs.ok v H) = .th v H1 := h
   rw [mO] at h; cases h
 | c1 p =>
   have h : b3k (.t p) f H = .th v H1 := h
   unfold b3k at h
   split at h
   ·unfold b7Q at h
    split at h
    ·rw [kP, kP, kP] at h
     split at h
     ·split at h
      ·split at h
       ·rename_i cs _ _ _ _ _ _ _ _
        cases hn : a0V cs _ with
        | none => rw [hn] at h; cases h
        | some w => rw [hn] at h; have h : (oO w fun v => Rs.ok v H) = .th v H1 := h; rw [mO] at h; cases h
       ·cases h
      ·cases h
     ·cases h
    ·cases h
   ·unfold c0Q at h
    split at h
    ·rw [kP] at h
     split at h
     ·rename_i cs _ _ _ _
      cases hn : a0V cs _ with
      | none => rw [hn] at h; cases h
      | some w => rw [hn] at h; have h : (oO w fun v => Rs.ok v H) = .th v H1 := h; rw [mO] at h; cases h
     ·cases h
    ·cases h
   ·cases h
 | cn n p =>
   have hh : b3u n (.t p) f H = .th v H1 := h
   unfold b3u at hh
   split at hh
   ·unfold b9x at hh
    split at hh
    ·rw [kP, kP, kP] at hh
     split at hh
     ·split at hh
      ·split at hh
       ·have key : ∀ {cs : List Value} {n : Nat} {pre : List Value}, ¬ (a2z cs n fun l => Rs.ok (.agg ⟨pre ++ l⟩) H) = .th v H1 := by
         intro cs
         induction cs with
         | nil => intro n pre h; cases n <;> cases h
         | cons c cs ih =>
           intro n pre h
           cases n with
           | zero => cases h
           | succ n =>
             have h : (a2z cs n fun l => Rs.ok (.agg ⟨pre ++ (c :: l)⟩) H) = .th v H1 := h
             have e : ∀ l : List Value, pre ++ (c :: l) = (pre ++ [c]) ++ l := by intro l; simp
             have h2 : (a2z cs n fun l => Rs.ok (.agg ⟨(pre ++ [c]) ++ l⟩) H) = .th v H1 := by
              rw [← h]; congr 1; funext l; rw [e l]
             exact ih h2
        exact key (pre := []) hh
       ·cases hh
      ·cases hh
     ·cases hh
    ·cases hh
   ·cases hh
theorem a7Z {H H1 : Heap} {f : Fr} {l : List Value} (hf : FAg f l) {v : Value} : ∀ {rs : List ResultVar} {qs : List LRes} {K : List Value → Rs}, uG P rs qs → (b6h H f qs K).Is v H1 → ∃ vs, nI P l H rs = some vs ∧ (K vs).Is v H1
 | [], [], K, _, h => ⟨[], rfl, h⟩
 | [], _ :: _, _, h, _ => h.elim
 | _ :: _, [], _, h, _ => h.elim
 | r :: rs, q :: qs, K, hl, h => by
   have h : (Rs.rec (motive := fun _ => Rs) .no (fun v _ => b6h H f qs fun l => K (v :: l)) (fun _ _ => .no) (a4h H f q)).Is v H1 := h
   cases hq : a4h H f q with
   | no => rw [hq] at h; exact absurd h Rs.ar
   | th w H2 => exact absurd hq b9H
   | ok w H2 =>
     rw [hq] at h
     obtain ⟨e, h1, h2⟩ := b0A hf hl (.inl hq)
     obtain ⟨vs, h3, h4⟩ := a7Z hf h2 h
     exact ⟨w :: vs, by simp [nI, h1, h3], h4⟩
theorem b6L {fn : Func} {H H1 : Heap} {f : Fr} {l : List Value} (hf : FAg f l) {qs : List LRes} (hl : uG P fn.results.toList qs) {v : Value} (h : (a7t qs f H).Is v H1) : H1 = H ∧ iC P fn l H = some v := by
 unfold a7t at h
 split at h
 ·rename_i q
  cases hr : fn.results.toList with
  | nil => rw [hr] at hl; exact hl.elim
  | cons r rs =>
    rw [hr] at hl
    obtain ⟨e, h1, h2⟩ := b0A hf hl h
    cases rs with
    | cons _ _ => exact h2.elim
    | nil => exact ⟨e, by simp [iC, hr, nI, h1]⟩
 ·rename_i hne
  obtain ⟨vs, h1, h2⟩ := a7Z hf hl h
  obtain ⟨h3, h4⟩ := lD h2
  obtain ⟨rfl, rfl⟩ := Rs.aL h4
  refine ⟨rfl, ?_⟩
  have hlen : ∀ {rs : List ResultVar} {qs : List LRes}, uG P rs qs → rs.length = qs.length := by
   intro rs
   induction rs with
   | nil => intro qs h; cases qs with | nil => rfl | cons => exact h.elim
   | cons r rs ih => intro qs h; cases qs with | nil => exact h.elim | cons q qs => simp [ih h.2]
  have hvl : ∀ {rs : List ResultVar} {vs : List Value}, nI P l H1 rs = some vs → vs.length = rs.length := by
   intro rs
   induction rs with
   | nil => intro vs h; injection h with h; subst h; rfl
   | cons r rs ih =>
     intro vs h
     simp only [nI, cW, de] at h
     obtain ⟨w, _, ws, h1, h2⟩ := h
     subst h2
     simp [ih h1]
  have hn1 : vs.length ≠ 1 := by
   rw [hvl h1, hlen hl]
   intro h1
   match qs, h1 with
   | [q], _ => exact hne q rfl
  unfold iC
  rw [h1, cV]
  rw [b0Q] at h3
  have h3 : vs.all jE = true := by rw [← h3]; congr 1
  split
  ·exact absurd rfl hn1
  ·rw [if_pos h3]
structure FuncOk (P : Program) (f : FuncId) (g : LFunc) : Prop where
 ex : ∃ fn c, P.funcs[f]? = some fn ∧ fn.body = some c ∧ (fn.name == "runtime.NumGoroutine") = false ∧ g.ps = (List.range fn.ntmps).map kR ∧ Low P fn.ntmps c g.body ∧ uG P fn.results.toList g.res
def TOk (P : Program) (T : LT) : Prop := ∀ f g, a2N (kR f) T = some g → FuncOk P f g
def EOk (P : Program) (E : List LEnv) (H : Heap) : Prop := ∀ en ∈ E, en.L < H.length ∧ ∀ r, iQ H en.L = some (.loop r) →
 ∃ k, en.ps = (List.range k).map kR ∧ r.tmps.size = k ∧ en.pp = r.params.toList.map kR ∧ (∀ t ∈ r.params.toList, t < k) ∧ Low P k r.assign en.a ∧ Low P k r.body en.b
theorem EOk.ab {E : List LEnv} {H H' : Heap} (h : EOk P E H) (hk : LK H H') : EOk P E H' := fun en hen => by
 obtain ⟨h1, h2⟩ := h en hen
 refine ⟨dI h1 hk.1, fun r' hr' => ?_⟩
 obtain ⟨r, hr, ea, eb, ep, et⟩ := hk.2 en.L r' h1 hr'
 obtain ⟨k, a, b, c, d, e, f⟩ := h2 r hr
 exact ⟨k, a, by rw [et]; exact b, by rw [ep]; exact c, by rw [ep]; exact d, by rw [ea]; exact e, by rw [eb]; exact f⟩
def a4c (P : Program) (ih : pY) : Prop := ∀ (E : List LEnv) (C : LCode) (k : Nat) (c : Code) (f : Fr) (l : List Value) (H : Heap) (e : Ex) (f1 : Fr) (H1 : Heap), Low P k c C → FRel k f l → EOk P E H → ih E C f H = .ok e f1 H1 →
 ∃ l1, FRel k f1 l1 ∧ Sim P c l H e l1 H1 ∧ LK H H1 ∧ ∀ b, c = .loop b → ∃ n, Rounds P b n l H e l1 H1
theorem a0h {α : Type} {no : α} : ∀ {l : List Value} {i m : Nat} {f : Fr} {K : Fr → α}, (pA no l ((List.range' i m).map kR) f K = no) ∨ (l.length ≤ m ∧ ∃ f', pA no l ((List.range' i m).map kR) f K = K f' ∧ ∀ t, nZ (kR t) f' = if i ≤ t ∧ t < i + l.length then get l (t - i) else nZ (kR t) f)
 | [], i, m, f, K => .inr ⟨eT _, f, rfl, fun t => by rw [if_neg (by simp only [eK]; omega)]⟩
 | v :: l, i, 0, f, K => .inl rfl
 | v :: l, i, m + 1, f, K => by
   have e : pA no (v :: l) ((List.range' i (m + 1)).map kR) f K = pV v (kR i) f fun f => pA no l ((List.range' (i + 1) m).map kR) f K := by
    rw [gC]; rfl
   rw [e, sP]
   rcases a0h (l := l) (i := i + 1) (m := m) (f := b6l f i v) (K := K) with h | ⟨h1, f', h2, h3⟩
   ·exact .inl h
   ·refine .inr ⟨by simp; omega, f', h2, fun t => ?_⟩
    rw [h3 t, a3B]
    by_cases ht : t = i
    ·subst ht
     rw [if_neg (by omega), if_pos rfl, if_pos (by simp), Nat.sub_self]; rfl
    ·rw [if_neg ht]
     by_cases h4 : i + 1 ≤ t ∧ t < i + 1 + l.length
     ·rw [if_pos h4, if_pos (by simp; omega)]
      rw [show t - i = (t - (i + 1)) + 1 by omega]; rfl
     ·rw [if_neg h4, if_neg (by simp; omega)]
theorem wD {α : Type} {no : α} {k : Nat} : ∀ {args : List Value} {ps : List Tmp} {f : Fr} {l : List Value} {K : Fr → α}, FRel k f l → (∀ t ∈ ps, t < k) → args.length = ps.length →
 ∃ f', pA no args (ps.map kR) f K = K f' ∧ FRel k f' ((ps.zip args).foldl (fun t (p, v) => t.set p v) l)
 | [], [], f, l, K, hf, _, _ => ⟨f, rfl, hf⟩
 | v :: args, p :: ps, f, l, K, hf, hp, he => by
   have e : pA no (v :: args) ((p :: ps).map kR) f K = pV v (kR p) f fun f => pA no args (ps.map kR) f K := rfl
   rw [e, sP]
   exact wD (hf.set (hp p (by simp)) v) (fun t ht => hp t (by simp [ht])) (by simpa using he)
 | [], _ :: _, _, _, _, _, _, he => by simp at he
 | _ :: _, [], _, _, _, _, _, he => by simp at he
theorem a0j (l : List Value) (n t : Nat) : get (l ++ List.replicate n undef) t = get l t := by
 rw [oI, oI]
 simp only [cY]
 by_cases h : t < l.length
 ·rw [eE h]
 ·rw [eH (by omega), ef (l := l) (by omega), gR]
  split <;> rfl
theorem a0s {T : LT} (hT : TOk P T) {ih : pY} (hih : a4c P ih) {E : List LEnv} {p : Pth} {f : FuncId} {args : List Value} {H H1 : Heap} {v : Value} (hE : EOk P E H) (hp : p = kR f) (h : (mT T ih E p args H).Is v H1) :
 FnS P f args H (fun v' H' => v' = v ∧ H' = H1) ∧ LK H H1 := by
 unfold mT at h
 split at h
 case h_2 => exact absurd h Rs.ar
 rename_i g hg
 subst hp
 obtain ⟨fn, c, hfn, hb, hn, hps, hlow, hres⟩ := (hT f g hg).ex
 rw [hps] at h
 rw [fD] at h
 rcases a0h (no := Rs.no) (l := args) (i := 0) (m := fn.ntmps) (f := .e) (K := fun f => c2L g.res (ih E g.body f H)) with h1 | ⟨h1, f0, h2, h3⟩
 ·rw [h1] at h; exact absurd h Rs.ar
 ·rw [h2] at h
  have hf0 : FRel fn.ntmps f0 (args ++ List.replicate (fn.ntmps - args.length) undef) := by
   refine ⟨by simp; omega, fun t => ?_⟩
   rw [h3 t, a0j]
   by_cases ht : t < args.length
   ·rw [if_pos (by omega)]; rfl
   ·rw [if_neg (by omega), vE, oI, cY, ef (by omega)]; try rfl
  cases hr : ih E g.body f0 H with
  | no => rw [hr] at h; exact absurd h Rs.ar
  | ok e f1 H2 =>
    rw [hr] at h
    obtain ⟨l1, hf1, hs, hk, _⟩ := hih E g.body fn.ntmps c f0 _ H e f1 H2 hlow hf0 hE hr
    have key : (e = .normal ∨ e = .ret) → (a7t g.res f1 H2).Is v H1 → FnS P f args H (fun v' H' => v' = v ∧ H' = H1) ∧ LK H H1 := by
     intro he hv
     obtain ⟨rfl, hv⟩ := b6L hf1.2 hres hv
     exact ⟨⟨fn, c, e, l1, H1, v, hfn, hb, hn, hs, he, hv, rfl, rfl⟩, hk⟩
    cases e with
    | normal => exact key (.inl rfl) h
    | ret => exact key (.inr rfl) h
    | exit id => exact absurd h Rs.ar
theorem b5z {T : LT} (hT : TOk P T) {ih : pY} (hih : a4c P ih) {E : List LEnv} {p : Pth} {f : FuncId} {args : List Value} {H H1 : Heap} {v : Value} (hE : EOk P E H) (hp : p = kR f) (h : (b6Z P T ih E p f args H).Is v H1) :
 (FnS P f args H (fun v' H' => v' = v ∧ H' = H1) ∨ qC P f args H = some (v, H1)) ∧ LK H H1 := by
 unfold b6Z at h
 cases hg : a2N p T with
 | some g =>
   rw [hg] at h
   obtain ⟨a, b⟩ := a0s (H1 := H1) (v := v) hT hih hE hp (by unfold mT; rw [hg]; exact h)
   exact ⟨.inl a, b⟩
 | none =>
   rw [hg] at h
   have h : (c1e P f args H).Is v H1 := h
   unfold c1e at h
   split at h
   ·rename_i v2 H2 hx
    obtain ⟨rfl, rfl⟩ := Rs.aP h
    exact ⟨.inr hx, a5s hx⟩
   ·exact absurd h Rs.ar
theorem a9u {E : List LEnv} {L : Nat} {en : LEnv} (h : b3X E L = some en) : en ∈ E ∧ en.L = L := by
 induction E with
 | nil => cases h
 | cons e E ih =>
   have h : nY (Nat.beq e.L L) (b3X E L) (some e) = some en := h
   rw [kP] at h
   split at h
   ·rename_i hh
    injection h with h
    subst h
    exact ⟨by simp, dS hh⟩
   ·obtain ⟨h1, h2⟩ := ih h
    exact ⟨dP _ h1, h2⟩
theorem a6f (e : Ex) : c0D e = rO e := by cases e <;> rfl
theorem b2u {ih : pY} (hih : a4c P ih) {E : List LEnv} {L : Nat} {args : List Value} {H H1 : Heap} {v : Value} (hE : EOk P E H) (h : (a8v ih E L args H).Is v H1) : yZ P L args H v H1 ∧ LK H H1 := by
 unfold a8v at h
 split at h
 case h_2 => exact absurd h Rs.ar
 rename_i en hen
 obtain ⟨hmem, rfl⟩ := a9u hen
 split at h
 case h_2 => exact absurd h Rs.ar
 rename_i p fn tmps ps a b d hg
 obtain ⟨hlen, h⟩ := lD h
 rw [yK] at hlen
 have hlen : ps.size = args.length := by simpa only [decide_eq_true_eq] using hlen
 obtain ⟨k, hps, hsz, hpp, hpk, hla, hlb⟩ := (hE en hmem).2 _ hg
 have hsz : tmps.length = k := by simpa using hsz
 rw [hps, fD] at h
 rcases a0h (no := Rs.no) (l := tmps) (i := 0) (m := k) (f := .e) (K := fun f => pA .no args en.pp f fun f => sV ih E en (ih E en.a f H)) with h1 | ⟨h1, f0, h2, h3⟩
 ·rw [h1] at h; exact absurd h Rs.ar
 rw [h2] at h
 have hf0 : FRel k f0 tmps := by
  refine ⟨hsz, fun t => ?_⟩
  rw [h3 t]
  by_cases ht : t < tmps.length
  ·rw [if_pos (by omega)]; rfl
  ·rw [if_neg (by omega), vE, oI, cY, ef (by omega)]; try rfl
 rw [hpp] at h
 obtain ⟨f2, h4, hf2⟩ := wD (no := Rs.no) (args := args) (ps := ps.toList) (K := fun f => sV ih E en (ih E en.a f H)) hf0 hpk (by simpa using hlen.symm)
 have h : (pA Rs.no args (List.map kR ps.toList) f0 fun f => sV ih E en (ih E en.a f H)).Is v H1 := h
 rw [h4] at h
 cases hr1 : ih E en.a f2 H with
 | no => rw [hr1] at h; exact absurd h Rs.ar
 | ok e f3 H2 =>
   rw [hr1] at h
   obtain ⟨l3, hf3, hs1, hk1, _⟩ := hih E en.a k a f2 _ H e f3 H2 hla hf2 hE hr1
   cases e with
   | ret => exact absurd h Rs.ar
   | exit id => exact absurd h Rs.ar
   | normal =>
     have h : (a0w ih E en f3 H2).Is v H1 := h
     unfold a0w at h
     split at h
     case h_2 => exact absurd h Rs.ar
     rename_i p2 fn2 tmps2 ps2 a2 b2 d2 hg2
     rw [lY] at h
     obtain ⟨r0, hr0, ea, eb, ep, et⟩ := hk1.2 en.L _ (hE en hmem).1 hg2
     rw [hg] at hr0
     injection hr0 with hr0
     injection hr0 with hr0
     subst hr0
     have ea' : a2 = a := ea
     have eb' : b2 = b := eb
     have ep' : ps2 = ps := ep
     have et' : tmps2 = ⟨tmps⟩ := et
     clear ea eb ep et
     subst ea' eb' ep' et'
     have hk2 : LK H2 (hset H2 en.L (.loop ⟨.busy, p2, fn2, ⟨tmps⟩, ps2, a2, b2, d2⟩)) := .loop hg2 ⟨rfl, rfl, rfl, rfl⟩
     cases hr2 : ih E en.b f3 (hset H2 en.L (.loop ⟨.busy, p2, fn2, ⟨tmps⟩, ps2, a2, b2, d2⟩)) with
     | no => rw [hr2] at h; exact absurd h Rs.ar
     | ok e f4 H3 =>
       rw [hr2] at h
       obtain ⟨l4, _, hs2, hk3, _⟩ := hih E en.b k b2 f3 _ _ e f4 H3 hlb hf3 (hE.ab (hk1.trans hk2)) hr2
       have h : (a2M en.L e H3).Is v H1 := h
       unfold a2M at h
       split at h
       case h_2 => exact absurd h Rs.ar
       rename_i st3 p3 fn3 tmps3 ps3 a3 b3 d3 hg3
       have fin : ∀ r', H1 = hset H3 en.L (.loop r') → (r' = { (⟨st3, p3, fn3, tmps3, ps3, a3, b3, d3⟩ : Loop) with state := if (rO e).isNone then .ready else .done, pending := rO e }) → v = .bool (rO e).isNone → yZ P en.L args H v H1 ∧ LK H H1 := by
        intro r' hH hr' hv
        refine ⟨?_, hk1.trans (hk2.trans (hk3.trans (by rw [hH]; exact .loop hg3 (by rw [hr']; exact ⟨rfl, rfl, rfl, rfl⟩))))⟩
        have hW := a0L (P := P) (args := args) (K := fun v' H' => v' = v ∧ H' = H1) hg hlen rfl
         ⟨.normal, l3, H2, hs1, rfl, _, hg2, rfl, e, l4, H3, hs2, _, hg3, hv.symm, by rw [hH, hr']⟩
        obtain ⟨v', H', h1, rfl, rfl⟩ := hW
        exact h1
       split at h
       ·rename_i hj
        obtain ⟨rfl, rfl⟩ := Rs.aP h
        rw [a6f] at hj
        exact fin _ rfl (by rw [hj]; rfl) (by rw [hj]; rfl)
       ·rename_i c hj
        obtain ⟨rfl, rfl⟩ := Rs.aP h
        rw [a6f] at hj
        exact fin _ rfl (by rw [hj]; rfl) (by rw [hj]; rfl)
theorem a3A {T : LT} (hT : TOk P T) {ih : pY} (hih : a4c P ih) {E : List LEnv} {H0 : Heap} (hE : EOk P E H0) : CallsOk P (a0z P T ih E) H0 where
 fn p f args H v H1 hk h hp := b5z hT hih (hE.ab hk) hp h
 rd L args H v H1 hk h := b2u hih (hE.ab hk) h
theorem c2M {α : Type} {f : Fr} {l : List Value} (hf : FAg f l) (i m : Nat) (K : List Value → α) : frL f ((List.range' i m).map kR) K = K ((List.range' i m).map (get l)) := by
 induction m generalizing i K with
 | zero => rfl
 | succ m ih =>
   have e : frL f ((List.range' i (m + 1)).map kR) K = oO (nZ (kR i) f) fun v => frL f ((List.range' (i + 1) m).map kR) fun l => K (v :: l) := by
    rw [gC]; rfl
   rw [e, mO, ih, hf i, gC]; rfl
theorem b9b {α : Type} {k : Nat} {f : Fr} {l : List Value} (hf : FRel k f l) (K : List Value → α) : frL f ((List.range k).map kR) K = K l := by
 rw [fD, c2M hf.2, ← fD]
 congr 1
 apply gw
 intro i
 rw [eL]
 by_cases hi : i < k
 ·rw [gI hi, dK, oI, cY]
  have : i < l.length := by rw [hf.1]; exact hi
  simp [dm this]
 ·rw [ef (by simp; omega), ef (by rw [hf.1]; omega)]; rfl
theorem b2t {T : LT} (hT : TOk P T) {ih : pY} (hih : a4c P ih) {E : List LEnv} {k : Nat} {g : Operand} {ps : Array Tmp} {assign body : Code} {A B : LCode} (hg : iO g = true) (hps : ∀ t ∈ ps.toList, t < k) (ha : Low P k assign A) (hb : Low P k body B)
 {x1 x2 : Fr → Heap → Rc} {f : Fr} {l : List Value} {H : Heap} {e : Ex} {f1 : Fr} {H1 : Heap} (hf : FRel k f l) (hE : EOk P E H) (h : a8h T ih E (iV g) ((List.range k).map kR) (ps.toList.map kR) ps assign body A B x1 x2 f H = .ok e f1 H1) :
 f1 = f ∧ Sim P (.rangeFunc g ps assign body) l H e l H1 ∧ LK H H1 := by
 unfold a8h at h
 rw [jT hf.2] at h
 split at h
 case h_2 => cases h
 rename_i j xa xb hgv
 rw [jZ, b9b hf, lY, jZ] at h
 unfold b0H at h
 rw [lJ] at h
 generalize hH0 : H.cons (.loop ⟨.ready, none, 0, ⟨l⟩, ps, assign, body, 0⟩) = H0 at h
 have hl0 : (⟨.ready, none, 0, ⟨l⟩, ps, assign, body, 0⟩ : Loop) = b0x l ps assign body := rfl
 have hE0 : EOk P (⟨H.length, (List.range k).map kR, ps.toList.map kR, A, B⟩ :: E) H0 := by
  intro en hen
  rcases dU.1 hen with rfl | hen
  ·refine ⟨by rw [← hH0, length_cons]; exact Nat.lt_succ_self _, fun r hr => ?_⟩
   rw [← hH0, iN] at hr
   injection hr with hr
   injection hr with hr
   subst hr
   exact ⟨k, rfl, by simpa using hf.1, rfl, hps, ha, hb⟩
  ·exact (hE.ab (by rw [← hH0]; exact .cons _ _)) en hen
 have key : ∀ v H2, (mT T ih (⟨H.length, (List.range k).map kR, ps.toList.map kR, A, B⟩ :: E) (kR j) (a4E xa (.func (.yield H.length) #[] #[] :: xb)) H0).Is v H2 → uC H.length f H2 = .ok e f1 H1 → f1 = f ∧ Sim P (.rangeFunc g ps assign body) l H e l H1 ∧ LK H H1 := by
  intro v H2 hc hr
  obtain ⟨hfn, hk⟩ := a0s hT hih hE0 rfl hc
  have hargs : a4E xa (.func (.yield H.length) #[] #[] :: xb) = xa ++ [.func (.yield H.length) #[] #[]] ++ xb := by rw [yC]; simp
  rw [hargs, ← hH0, hl0] at hfn
  have fin : ∀ (r : Loop) (H3 : Heap), iQ H2 H.length = some (.loop r) → r.state ≠ .busy → H3 = hset H2 H.length (.loop { r with state := .exhausted }) → (r.pending = none → e = .normal) → (∀ c, r.pending = some c → (c = .ret ∧ e = .ret) ∨ ∃ id, c = .exit id ∧ e = .exit id) → f1 = f → H1 = H3 →
   f1 = f ∧ Sim P (.rangeFunc g ps assign body) l H e l H1 ∧ LK H H1 := by
   intro r H3 hrl hnb hH3 hp0 hp1 he1 he2
   have hw : Wp P (.rangeFunc g ps assign body) l H (fun e' l' H' => e' = e ∧ l' = l ∧ H' = H3) := by
    refine Wp.range (first := xa) (captured := xb) hg (by rw [hgv]) (hfn.mono ?_)
    rintro v' H' ⟨rfl, rfl⟩
    refine ⟨r, hrl, hnb, fun hp => ⟨(hp0 hp).symm, rfl, hH3.symm⟩, fun c hc => ?_⟩
    rcases hp1 c hc with ⟨rfl, he⟩ | ⟨id, rfl, he⟩
    ·exact Wp.ret ⟨he.symm, rfl, hH3.symm⟩
    ·exact Wp.exit ⟨he.symm, rfl, hH3.symm⟩
   obtain ⟨e', l', H', hs, rfl, rfl, rfl⟩ := hw
   refine ⟨he1, by rw [he2]; exact hs, ?_⟩
   rw [he2, hH3]
   have h1 : LK H H0 := by rw [← hH0]; exact .cons _ _
   exact h1.trans (hk.trans (.loop hrl ⟨rfl, rfl, rfl, rfl⟩))
  unfold uC at hr
  split at hr
  ·rename_i hg2
   rw [lY] at hr
   injection hr with h1 h2 h3
   exact fin _ _ hg2 (by simp) rfl (fun _ => h1.symm) (fun c hc => by cases hc) h2.symm h3.symm
  ·rename_i hg2
   rw [lY] at hr
   injection hr with h1 h2 h3
   exact fin _ _ hg2 (by simp) rfl (fun _ => h1.symm) (fun c hc => by cases hc) h2.symm h3.symm
  ·rename_i hg2
   rw [lY] at hr
   injection hr with h1 h2 h3
   exact fin _ _ hg2 (by simp) rfl (fun hc => by cases hc) (fun c hc => by injection hc with hc; subst hc; exact .inl ⟨rfl, h1.symm⟩) h2.symm h3.symm
  ·rename_i hg2
   rw [lY] at hr
   injection hr with h1 h2 h3
   exact fin _ _ hg2 (by simp) rfl (fun hc => by cases hc) (fun c hc => by injection hc with hc; subst hc; exact .inr ⟨_, rfl, h1.symm⟩) h2.symm h3.symm
  ·cases hr
 cases hc : mT T ih (⟨H.length, (List.range k).map kR, ps.toList.map kR, A, B⟩ :: E) (kR j) (a4E xa (.func (.yield H.length) #[] #[] :: xb)) H0 with
 | no => rw [hc] at h; cases h
 | ok v H2 => rw [hc] at h; exact key v H2 (.inl hc) h
 | th v H2 =>
   rw [hc] at h
   have h : nR H2 (fun H => uC _ f H) = .ok e f1 H1 := h
   rw [lY] at h
   exact key v H2 (.inr hc) h
theorem c1U (kC : P.follows .mixedOrders = true) {T : LT} (hT : TOk P T) : ∀ n, a4c P (exF P T n) := by
 intro n
 induction n with
 | zero => intro E C k c f l H e f1 H1 _ _ _ h; cases h
 | succ n ih =>
   intro E C k c f l H e f1 H1 hlow hf hE h
   have h : b0E P T (exF P T n) E C f H = .ok e f1 H1 := h
   have noloop : ∀ {c : Code}, (∀ b, c ≠ .loop b) → ∀ {l1 : List Value}, ∀ b, c = .loop b → ∃ n, Rounds P b n l H e l1 H1 := fun hne _ b hb => absurd hb (hne b)
   cases hlow with
   | bad => cases h
   | skip =>
     injection h with h1 h2 h3; subst h1 h2 h3
     exact ⟨l, hf, .skip l H, .refl H, noloop (by intro b h; cases h)⟩
   | label t =>
     injection h with h1 h2 h3; subst h1 h2 h3
     exact ⟨l, hf, .label t l H, .refl H, noloop (by intro b h; cases h)⟩
   | exit id =>
     injection h with h1 h2 h3; subst h1 h2 h3
     exact ⟨l, hf, .exit id l H, .refl H, noloop (by intro b h; cases h)⟩
   | ret =>
     injection h with h1 h2 h3; subst h1 h2 h3
     exact ⟨l, hf, .ret l H, .refl H, noloop (by intro b h; cases h)⟩
   | @reg id ops d lo hlo hd =>
     have h : c4a (zG P (a0z P T (exF P T n) E) lo f H) = .ok e f1 H1 := h
     cases hr : zG P (a0z P T (exF P T n) E) lo f H with
     | no => rw [hr] at h; cases h
     | ok f2 H2 =>
       rw [hr] at h
       injection h with h1 h2 h3; subst h1 h2 h3
       obtain ⟨l1, hf1, hops, hk⟩ := b8l (a3A hT ih hE) hlo (i := 0) rfl hf (.refl H) hr
       have hops : OpsR P ops (List.range ops.size) l H l1 H2 := by rw [fD]; simpa using hops
       refine ⟨l1, hf1, ?_, hk, noloop (by intro b h; cases h)⟩
       cases d with
       | false => exact .region hops
       | true => exact .bW kC (hd rfl) hops
   | drw hlo ht hl =>
     obtain ⟨l1, rfl, hf1, hs, hk⟩ := b8L kC (a3A hT ih hE) hlo ht hl hf h
     exact ⟨l1, hf1, hs, hk, noloop (by intro b h; cases h)⟩
   | @seq a b A B ha hb =>
     have h : b7W (exF P T n) E B (exF P T n E A f H) = .ok e f1 H1 := h
     cases hr : exF P T n E A f H with
     | no => rw [hr] at h; cases h
     | ok e2 f2 H2 =>
       rw [hr] at h
       obtain ⟨l2, hf2, hs, hk, _⟩ := ih E A k a f l H e2 f2 H2 ha hf hE hr
       cases e2 with
       | normal =>
         obtain ⟨l1, hf1, hs1, hk1, _⟩ := ih E B k b f2 l2 H2 e f1 H1 hb hf2 (hE.ab hk) h
         exact ⟨l1, hf1, .seq hs hs1, hk.trans hk1, noloop (by intro b h; cases h)⟩
       | ret =>
         injection h with h1 h2 h3; subst h1 h2 h3
         exact ⟨l2, hf2, .seq' hs (by intro h; cases h), hk, noloop (by intro b h; cases h)⟩
       | exit id =>
         injection h with h1 h2 h3; subst h1 h2 h3
         exact ⟨l2, hf2, .seq' hs (by intro h; cases h), hk, noloop (by intro b h; cases h)⟩
   | @cond c x y X Y hc hx hy =>
     have h : b5R (exF P T n) E (iV c) X Y (b0E P T (exF P T n) E X) (b0E P T (exF P T n) E Y) f H = .ok e f1 H1 := h
     unfold b5R at h
     rw [jT hf.2] at h
     split at h
     ·rename_i t ht
      cases t with
      | true =>
        obtain ⟨l1, hf1, hs, hk, _⟩ := ih E X k x f l H e f1 H1 hx hf hE h
        exact ⟨l1, hf1, .cond ht hc hs, hk, noloop (by intro b h; cases h)⟩
      | false =>
        obtain ⟨l1, hf1, hs, hk, _⟩ := ih E Y k y f l H e f1 H1 hy hf hE h
        exact ⟨l1, hf1, .cond ht hc hs, hk, noloop (by intro b h; cases h)⟩
     ·cases h
   | @block id b B hb =>
     have h : c5A id (exF P T n E B f H) = .ok e f1 H1 := h
     cases hr : exF P T n E B f H with
     | no => rw [hr] at h; cases h
     | ok e2 f2 H2 =>
       rw [hr] at h
       obtain ⟨l2, hf2, hs, hk, _⟩ := ih E B k b f l H e2 f2 H2 hb hf hE hr
       have hs' : Sim P (.block id b) l H (e2.out id) l2 H2 := .block hs
       cases e2 with
       | normal => injection h with h1 h2 h3; subst h1 h2 h3; exact ⟨l2, hf2, hs', hk, noloop (by intro b h; cases h)⟩
       | ret => injection h with h1 h2 h3; subst h1 h2 h3; exact ⟨l2, hf2, hs', hk, noloop (by intro b h; cases h)⟩
       | exit i =>
         have h : Rc.ok (Bool.rec (motive := fun _ => Ex) (.exit i) .normal (Nat.beq i id)) f2 H2 = .ok e f1 H1 := h
         injection h with h1 h2 h3; subst h2 h3
         have : (Ex.exit i).out id = e := by
          rw [← h1]
          by_cases hi : i = id
          ·subst hi; simp [Ex.out]
          ·have : Nat.beq i id = false := fO.2 fun e => hi (dS e)
           simp [Ex.out, hi, this]
         rw [this] at hs'
         exact ⟨l2, hf2, hs', hk, noloop (by intro b h; cases h)⟩
   | @loop b B hb =>
     have h : b7W (exF P T n) E (.loop B) (exF P T n E B f H) = .ok e f1 H1 := h
     cases hr : exF P T n E B f H with
     | no => rw [hr] at h; cases h
     | ok e2 f2 H2 =>
       rw [hr] at h
       obtain ⟨l2, hf2, hs, hk, _⟩ := ih E B k b f l H e2 f2 H2 hb hf hE hr
       have last : e2 ≠ .normal → e2 = e → f2 = f1 → H2 = H1 → ∃ l1, FRel k f1 l1 ∧ Sim P (.loop b) l H e l1 H1 ∧ LK H H1 ∧ ∀ b', Code.loop b = .loop b' → ∃ n, Rounds P b' n l H e l1 H1 := by
        intro hne h1 h2 h3
        subst h1 h2 h3
        have hr : Rounds P b 1 l H e2 l2 H2 := .last hs hne
        exact ⟨l2, hf2, .loop hr, hk, fun b' hb' => by injection hb' with hb'; subst hb'; exact ⟨1, hr⟩⟩
       cases e2 with
       | normal =>
         obtain ⟨l1, hf1, hs1, hk1, hro⟩ := ih E (.loop B) k (.loop b) f2 l2 H2 e f1 H1 (.loop hb) hf2 (hE.ab hk) h
         obtain ⟨m, hm⟩ := hro b rfl
         have hr : Rounds P b (m + 1) l H e l1 H1 := .more hs hm
         exact ⟨l1, hf1, .loop hr, hk.trans hk1, fun b' hb' => by injection hb' with hb'; subst hb'; exact ⟨_, hr⟩⟩
       | ret => injection h with h1 h2 h3; exact last (by intro h; cases h) h1 h2 h3
       | exit id => injection h with h1 h2 h3; exact last (by intro h; cases h) h1 h2 h3
   | range hg hps ha hb =>
     obtain ⟨rfl, hs, hk⟩ := b2t (x1 := fun _ _ => .no) (x2 := fun _ _ => .no) hT ih hg hps ha hb hf hE h
     exact ⟨l, hf, hs, hk, noloop (by intro b h; cases h)⟩
theorem yJ {α : Type} (v : LFunc) (p : Pth) (f : LT) (K : LT → α) : sF v p f K = K (sF v p f fun f => f) := by
 induction p generalizing f α with
 | z => cases f <;> rfl
 | l p ih =>
   cases f with
   | e =>
     show sF v p .e (fun l => K (.n none l .e)) = K (sF v p .e fun l => .n none l .e)
     rw [ih, ih (K := fun l => LT.n none l .e)]
   | n w l r =>
     show sF v p l (fun l => K (.n w l r)) = K (sF v p l fun l => .n w l r)
     rw [ih, ih (K := fun l => LT.n w l r)]
 | r p ih =>
   cases f with
   | e =>
     show sF v p .e (fun l => K (.n none .e l)) = K (sF v p .e fun l => .n none .e l)
     rw [ih, ih (K := fun l => LT.n none .e l)]
   | n w l r =>
     show sF v p r (fun r => K (.n w l r)) = K (sF v p r fun r => .n w l r)
     rw [ih, ih (K := fun r => LT.n w l r)]
theorem xF (p : Pth) : a2N p .e = none := by cases p <;> rfl
theorem b2H (v : LFunc) (p q : Pth) (f : LT) {g : LFunc} (h : a2N q (sF v p f fun f => f) = some g) : (q = p ∧ g = v) ∨ a2N q f = some g := by
 induction p generalizing f q with
 | z =>
   cases q with
   | z => left; refine ⟨rfl, ?_⟩; cases f <;> (injection h with h; exact h.symm)
   | l q => right; cases f with
     | e => have h : a2N q .e = some g := h
            rw [xF] at h; cases h
     | n => exact h
   | r q => right; cases f with
     | e => have h : a2N q .e = some g := h
            rw [xF] at h; cases h
     | n => exact h
 | l p ih =>
   have h1 : ∀ f, sF v (.l p) f (fun f => f) = match f with | .e => .n none (sF v p .e fun f => f) .e | .n w l r => .n w (sF v p l fun f => f) r := fun f => by
    cases f with
    | e => exact yJ v p .e fun l => LT.n none l .e
    | n w l r => exact yJ v p l fun l => LT.n w l r
   rw [h1] at h
   cases q with
   | z => right; cases f with
     | e => exact h
     | n => exact h
   | r q => right; cases f with
     | e => have h : a2N q .e = some g := h
            rw [xF] at h; cases h
     | n => exact h
   | l q =>
     cases f with
     | e =>
       rcases ih q .e h with ⟨rfl, hq⟩ | h
       ·exact .inl ⟨rfl, hq⟩
       ·rw [xF] at h; cases h
     | n w l r =>
       rcases ih q l h with ⟨rfl, hq⟩ | h
       ·exact .inl ⟨rfl, hq⟩
       ·exact .inr h
 | r p ih =>
   have h1 : ∀ f, sF v (.r p) f (fun f => f) = match f with | .e => .n none .e (sF v p .e fun f => f) | .n w l r => .n w l (sF v p r fun f => f) := fun f => by
    cases f with
    | e => exact yJ v p .e fun l => LT.n none .e l
    | n w l r => exact yJ v p r fun r => LT.n w l r
   rw [h1] at h
   cases q with
   | z => right; cases f with
     | e => exact h
     | n => exact h
   | l q => right; cases f with
     | e => have h : a2N q .e = some g := h
            rw [xF] at h; cases h
     | n => exact h
   | r q =>
     cases f with
     | e =>
       rcases ih q .e h with ⟨rfl, hq⟩ | h
       ·exact .inl ⟨rfl, hq⟩
       ·rw [xF] at h; cases h
     | n w l r =>
       rcases ih q r h with ⟨rfl, hq⟩ | h
       ·exact .inl ⟨rfl, hq⟩
       ·exact .inr h
theorem b1L {α : Type} (f : FuncId) (no : α) (K : LFunc → α) : (∃ g, FuncOk P f g ∧ a2m P f no K = K g) ∨ a2m P f no K = no := by
 unfold a2m
 split
 ·rename_i fn hfn
  split
  ·rename_i c hb
   rw [kP]
   split
   ·exact .inr rfl
   ·rename_i hn
    rcases b5i (P := P) fn.results.toList (fun res => b2J fn.ntmps fun ps => nB P fn.ntmps c fun b => K ⟨ps, b, res⟩) no with ⟨res, hres, h1⟩ | h1
    ·rw [h1, b0V]
     obtain ⟨C, hC, h2⟩ := b3m (P := P) fn.ntmps c (fun b => K ⟨(List.range fn.ntmps).map kR, b, res⟩)
     exact .inl ⟨⟨_, C, res⟩, ⟨fn, c, hfn, hb, by simpa using hn, rfl, hC, hres⟩, h2⟩
    ·exact .inr h1
  ·exact .inr rfl
 ·exact .inr rfl
theorem b7j {α : Type} (fs : List FuncId) (T : LT) (hT : TOk P T) (K : LT → α) : ∃ T', TOk P T' ∧ tP P fs T K = K T' := by
 induction fs generalizing T with
 | nil => exact ⟨T, hT, rfl⟩
 | cons f fs ih =>
   have e : tP P (f :: fs) T K = a2m P f (tP P fs T K) fun g => lL (kR f) fun p => sF g p T fun T => tP P fs T K := rfl
   rw [e]
   rcases b1L (P := P) f (tP P fs T K) (fun g => lL (kR f) fun p => sF g p T fun T => tP P fs T K) with ⟨g, hg, h⟩ | h
   ·rw [h, lJ, yJ]
    refine ih _ fun f' g' h' => ?_
    rcases b2H g (kR f) (kR f') T h' with ⟨he, rfl⟩ | h'
    ·rw [b1p he]; exact hg
    ·exact hT f' g' h'
   ·rw [h]; exact ih T hT
end Go.Ds
namespace Go.Ds
open Go.Proofs Go.Proofs.Tryz
def t64 : List Nat := [0, 1, 56, 2, 57, 49, 28, 3, 61, 58, 42, 50, 38, 29, 17, 4, 62, 47, 59, 36, 45, 43, 51, 22, 53, 39, 33, 30, 24, 18, 12, 5, 63, 55, 48, 27, 60, 41, 37, 16, 46, 35, 44, 21, 52, 32, 23, 11, 54, 26, 40, 15, 34, 20, 31, 10, 25, 14, 19, 9, 13, 8, 7, 6]
def t32 : List Nat := [0, 1, 28, 2, 29, 14, 24, 3, 30, 22, 20, 15, 25, 17, 4, 8, 31, 27, 13, 23, 21, 19, 16, 7, 26, 12, 18, 6, 11, 5, 10, 9]
noncomputable def gH : Heap := ((((Heap.nil.cons (.cells (t64.map fun (n : Nat) => Value.int .u8 (.ofNat n)) 5 false 0 1)).cons (.cells [] 3 false 0 1)).cons (.cells ([1, 10, 100, 1000, 10000, 100000, 1000000, 10000000, 100000000, 1000000000, 10000000000, 100000000000, 1000000000000, 10000000000000, 100000000000000, 1000000000000000, 10000000000000000, 100000000000000000, 1000000000000000000, 10000000000000000000].map fun (n : Nat) => Value.int .u64 (.ofNat n)) 39 false 0 1)).cons (.cells (t32.map fun (n : Nat) => Value.int .u8 (.ofNat n)) 5 false 0 1))
theorem c4R : prog.follows .mixedOrders = true := by kernel_rfl
def b1D : Nat → Nat → List UInt8 → List UInt8
 | 0, _, acc => acc
 | f + 1, n, acc => if n < 10 then (48 + n).toUInt8 :: acc else b1D f (n / 10) ((48 + n % 10).toUInt8 :: acc)
def pC (n : Nat) : ByteArray := ⟨(b1D 100 n []).toArray⟩
theorem a5x {b : ByteArray} {n : Nat} (h : b.data.toList = b1D 100 n []) : b = pC n := by
 cases b with | mk d => cases d with | mk l => simp only at h; subst h; rfl
def b0M (r : Rs) (n : Nat) : Bool := match r with
 | .ok (.string b) _ => decide (b.data.toList = b1D 100 n [])
 | .th (.string b) _ => decide (b.data.toList = b1D 100 n [])
 | _ => false
def b8y (v : Value) (n : Nat) : Bool := match v with
 | .tuple vs => match vs.toList with
   | [.string b, .int .i64 m] => decide (m = 0) && decide (b.data.toList = b1D 100 n [])
   | _ => false
 | _ => false
def b5x (r : Rs) (n : Nat) : Bool := match r with
 | .ok v _ => b8y v n
 | .th v _ => b8y v n
 | _ => false
def b5P (r : Rs) (n : Int) : Bool := match r with
 | .ok (.int .i64 m) _ => decide (m = n)
 | .th (.int .i64 m) _ => decide (m = n)
 | _ => false
noncomputable def c0m (ps : List Nat) : Bool := tP prog [117, 130, 122, 160, 181, 194, 197, 198, 199, 200, 203, 204, 205, 206, 208] .e fun T => ps.all fun x => b0M (mT T (exF prog T 4000) [] (kR 130) [.int .i64 x] gH) x
def fsP : List Nat := [117, 192, 177, 179, 52, 129, 122, 191, 202, 84, 85, 156, 157, 158, 159, 163, 201, 207, 174, 175, 176, 178, 180, 182, 183, 189, 190, 193, 195, 197, 198, 199, 200, 203, 204, 205, 206, 208]
noncomputable def uR (ps : List Nat) : Bool := tP prog fsP .e fun T => ps.all fun x => b5x (mT T (exF prog T 4000) [] (kR 129) [.string (pC x), .int .i64 24] gH) (x ^ 24)
def fsM : List Nat := [117, 192, 177, 179, 52, 130, 131, 122, 160, 191, 202, 84, 85, 156, 157, 158, 159, 161, 163, 181, 201, 207, 174, 175, 176, 178, 180, 182, 183, 194, 189, 190, 193, 195, 197, 198, 199, 200, 203, 204, 205, 206, 208]
noncomputable def lV (ps : List (Nat × Nat)) : Bool := tP prog fsM .e fun T => ps.all fun x => b0M (mT T (exF prog T 4000) [] (kR 131) [.string (pC x.1), .string (pC x.2)] gH) (x.1 * x.2)
def rX (t : Nat × Nat) : List (Nat × Nat) := (t.1 ^ 24, 2) :: (List.range t.2).map fun k => (2 * t.1 ^ 24 * 4 ^ k, 4)
def a6H (t : Nat × Nat × Nat) : List (Nat × Nat) := (List.range (t.2.2 + 1)).map fun k => (t.1 ^ 24, 2 * t.2.1 ^ 24 * 4 ^ k)
def b7f (a b : Nat) : Int := if a < b then -1 else if b < a then 1 else 0
noncomputable def uY (ps : List (Nat × Nat)) : Bool := tP prog [132, 162, 163, 164, 182, 183, 184, 195, 196] .e fun T => ps.all fun x => b5P (mT T (exF prog T 4000) [] (kR 132) [.string (pC x.1), .string (pC x.2)] gH) (b7f x.1 x.2)
end Go.Ds
namespace Go.Ds
open Go.RowKit Go.Proofs
section
variable {P : Program} {ρ : Rho} {H : Heap} {w : World}
theorem a3Y {name : String} {g : Nat} {k : IntKind} {zs : List Int} (hg : P.globalNamed name = some g) (ht : Lib.TabIs P w name k zs) : ∃ t fr, w.heap[g]? = some (.cells (zs.map fun z => Value.int k z).toArray t fr) := by
 unfold Lib.TabIs World.var? at ht
 rw [hg, cV] at ht
 split at ht
 ·rename_i cs t fr hb
  obtain rfl := cT ht
  exact ⟨t, fr, hb⟩
 ·cases ht
theorem InW.cI (h : InW P ρ H w) {name : String} {g : Nat} {k : IntKind} {zs : List Int} {ty : TypeId} (hg : P.globalNamed name = some g) (ht : Lib.TabIs P w name k zs) (hgH : g = H.length) (hty : iF P ty = some 1) :
 InW P (ρ.put H.length (zs.map fun z => Value.int k z).length ⟨g, 0, zs.length, 1⟩) (H.cons (.cells (zs.map fun z => Value.int k z) ty false 0 1)) w := by
 obtain ⟨t, fr, hb⟩ := a3Y hg ht
 refine (h.row ⟨g, 0, zs.length, 1⟩ hb (ty := ty) hty (by simp) (zs.map fun z => Value.int k z) 1 (fun _ => ⟨hgH, rfl⟩) (by simp) fun i c hi _ hc => ⟨c, ?_, ?_⟩).1
 ·have : (⟨g, 0, zs.length, 1⟩ : Place).at i = i := by simp [Place.at]
  rw [this]
  simpa using hc
 ·rw [eL] at hc
  obtain ⟨z, _, rfl⟩ := de.1 hc
  exact .c0 (.flat rfl)
end
theorem c3P : ∀ A b, iQ gH A = some b → ∃ cs ty lo, b = .cells cs ty false lo 1 ∧ kK cs = true := by
 intro A b h
 unfold gH at h
 have hn : ∀ (H : Heap) (c : Blk), iQ (H.cons c) A = some b → (A = H.length ∧ b = c) ∨ iQ H A = some b := fun H c h => by
  by_cases he : A = H.length
  ·subst he; rw [iN] at h; exact .inl ⟨rfl, (cT h).symm⟩
  ·have hA : A < (H.cons c).length := jK h
   rw [length_cons] at hA
   rw [jP _ (by omega)] at h
   exact .inr h
 rcases hn _ _ h with ⟨_, rfl⟩ | h
 ·exact ⟨_, _, _, rfl, by kernel_rfl⟩
 rcases hn _ _ h with ⟨_, rfl⟩ | h
 ·exact ⟨_, _, _, rfl, by kernel_rfl⟩
 rcases hn _ _ h with ⟨_, rfl⟩ | h
 ·exact ⟨_, _, _, rfl, by kernel_rfl⟩
 rcases hn _ _ h with ⟨_, rfl⟩ | h
 ·exact ⟨_, _, _, rfl, by kernel_rfl⟩
 ·have : A < 0 := jK h
  omega
theorem ExtW.glob {ρ ρ' : Rho} {H' : Heap} (h : ExtW ρ gH ρ' H') : Glob gH H' := ⟨h.len, fun A hA => h.old A hA, c3P⟩
def p10 : List Int := [1, 10, 100, 1000, 10000, 100000, 1000000, 10000000, 100000000, 1000000000, 10000000000, 100000000000, 1000000000000, 10000000000000, 100000000000000, 1000000000000000, 10000000000000000, 100000000000000000, 1000000000000000000, 10000000000000000000]
theorem g64 : Tryz.prog.globalNamed "math/bits.deBruijn64tab" = some 0 := by kernel_rfl
theorem oC : Tryz.prog.globalNamed "internal/strconv.uint64pow10" = some 2 := by kernel_rfl
theorem g32 : Tryz.prog.globalNamed "math/bits.deBruijn32tab" = some 3 := by kernel_rfl
theorem b9V {w : World} (h64 : Lib.TabIs Tryz.prog w "math/bits.deBruijn64tab" .u8 (t64.map Int.ofNat)) (h10 : Lib.TabIs Tryz.prog w "internal/strconv.uint64pow10" .u64 p10)
 (h32 : Lib.TabIs Tryz.prog w "math/bits.deBruijn32tab" .u8 (t32.map Int.ofNat)) (h1001 : ∃ cs t fr, w.heap[1]? = some (.cells cs t fr)) : ∃ ρ, InW Tryz.prog ρ gH w := by
 have a0 := (InW.none (P := Tryz.prog) w).cI g64 h64 (ty := 5) rfl (by kernel_rfl)
 obtain ⟨cs1, t1, fr1, hb1⟩ := h1001
 have a1 := (a0.row ⟨1, 0, cs1.size, 1⟩ hb1 (ty := 3) (by kernel_rfl) rfl [] 1 (fun _ => ⟨rfl, rfl⟩) (by simp) (fun i c hi => by simp at hi)).1
 have a2 := a1.cI oC h10 (ty := 39) rfl (by kernel_rfl)
 have a3 := a2.cI g32 h32 (ty := 5) rfl (by kernel_rfl)
 exact ⟨_, a3⟩
end Go.Ds
namespace Go.Ds
noncomputable section
variable {P : Program} {H0 : Base} {H : Heap} {os : List Ob} {κ β : Type} [DecidableEq κ] {enc : κ → Value} {f : β → Value} {t : TypeId} {z : Value}
structure MapK (P : Program) (t : TypeId) {κ : Type} [DecidableEq κ] (enc : κ → Value) (z : Value) : Prop where
 ex : ∃ kt et, xT P t = some (kt, et) ∧ jA P et = some z ∧ jB z = true ∧ (∀ b k, xU P b kt (enc k) = true) ∧
  (∀ k (es : List MapEntry) (ks : List κ), es.map (·.key) = ks.map enc → rT P kt (enc k) es = some (ks.findIdx? fun x => decide (x = k))) ∧ ∀ k, Instr.sameBits 10000 (enc k) (enc k) = true
def kcs (enc : κ → Value) (f : β → Value) (kvs : List (κ × β)) : List Value := kvs.flatMap fun p => [enc p.1, f p.2]
def a1s (kvs : List (κ × β)) (k : κ) : Option β := (kvs.find? fun p => decide (p.1 = k)).map (·.2)
def a5A (kvs : List (κ × β)) (k : κ) (v : β) : List (κ × β) := match kvs.findIdx? (fun p => decide (p.1 = k)) with
 | some j => kvs.set j (k, v)
 | none => kvs ++ [(k, v)]
theorem a4A : ∀ (es : List MapEntry) (kvs : List (κ × β)), kcs enc f kvs = mcs es → es.map (·.key) = kvs.map (fun p => enc p.1) ∧ es.map (·.val) = kvs.map (fun p => f p.2)
 | [], [], _ => ⟨rfl, rfl⟩
 | [], p :: kvs, h => by simp [kcs, mcs] at h
 | e :: es, [], h => by simp [kcs, mcs] at h
 | e :: es, p :: kvs, h => by
   simp only [kcs, mcs, dz, ia, ff, fM] at h
   obtain ⟨h1, h2, h3⟩ := h
   obtain ⟨h4, h5⟩ := a4A es kvs h3
   simp only [eu]
   exact ⟨by rw [h4, h1], by rw [h5, h2]⟩
theorem b0h : ∀ (es : List MapEntry) (kvs : List (κ × β)), es.map (·.key) = kvs.map (fun p => enc p.1) → es.map (·.val) = kvs.map (fun p => f p.2) → kcs enc f kvs = mcs es
 | [], [], _, _ => rfl
 | [], p :: kvs, h, _ => by simp at h
 | e :: es, [], h, _ => by simp at h
 | e :: es, p :: kvs, h, h' => by
   simp only [eu, fM] at h h'
   have := b0h es kvs h.2 h'.2
   simp only [kcs, mcs, dz] at this ⊢
   rw [this, h.1, h'.1]
theorem St.bX (hS : St P H0 H os) (i : Nat) {A : Nat} {cs : List Value} (ho : os[i]? = some ⟨.map (some A), 0, cs⟩) : ∃ es ck ver, iQ H A = some (.map es ck ver) ∧ cs = mcs es ∧ Stamps es ck := by
 have := hS.own _ (dN ho)
 unfold OwnAt at this
 rw [if_pos rfl] at this
 rcases this with ⟨_, _, _, _, _, _, h⟩ | ⟨A', es, ck, ver, h1, h2, h3, h4⟩
 ·cases h
 ·simp only [Value.map.injEq, dB] at h3
  subst h3
  exact ⟨es, ck, ver, h1, h2, h4⟩
theorem b1z (kvs : List (κ × β)) (k : κ) : (∃ j x, (kvs.map (·.1)).findIdx? (fun x => decide (x = k)) = some j ∧ kvs[j]? = some x ∧ kvs.find? (fun p => decide (p.1 = k)) = some x) ∨ ((kvs.map (·.1)).findIdx? (fun x => decide (x = k)) = none ∧ kvs.find? (fun p => decide (p.1 = k)) = none) := by
 induction kvs with
 | nil => exact .inr ⟨rfl, rfl⟩
 | cons p kvs ih =>
   by_cases h : p.1 = k
   ·exact .inl ⟨0, p, by simp [eW, h], rfl, by simp [h]⟩
   ·rcases ih with ⟨j, x, h1, h2, h3⟩ | ⟨h1, h2⟩
    ·exact .inl ⟨j + 1, x, by simp [eW, h, h1], by simpa using h2, by simp [h, h3]⟩
    ·exact .inr ⟨by simp [eW, h, h1], by simp [h, h2]⟩
theorem St.cR (hS : St P H0 H os) (i : Nat) {A : Nat} {kvs : List (κ × β)} (ho : os[i]? = some ⟨.map (some A), 0, kcs enc f kvs⟩) (hk : MapK P t enc z) (hf : ∀ b, mU (f b) = true) (c : Bool) (k : κ) :
 pJ P H t (.map (some A)) (enc k) c = some (pairV c (((a1s kvs k).map f).getD z) (a1s kvs k).isSome) := by
 obtain ⟨kt, et, h1, h2, h3, h4, h5, h6⟩ := hk.ex
 obtain ⟨es, ck, ver, h7, h8, _⟩ := hS.bX i ho
 obtain ⟨h9, h10⟩ := a4A es kvs h8
 have hi := h5 k es (kvs.map (·.1)) (by rw [h9]; simp [gV])
 simp only [pJ, h1, cV, a1Q, h7, h4, if_true, hi, a1s]
 rcases b1z kvs k with ⟨j, x, e1, e2, e3⟩ | ⟨e1, e3⟩
 ·have hj : es[j]?.map (·.val) = some (f x.2) := by
   rw [← eL, h10, eL, e2]; rfl
  cases he : es[j]? with
  | none => rw [he] at hj; simp at hj
  | some e =>
    rw [he] at hj
    simp only [dK, dB] at hj
    simp only [e1, he, cV, hj, hf, if_true, e3, dK, eZ, Option.isSome_some]
 ·simp only [e1, e3, Option.map_none, Option.getD_none, Option.isSome_none, h2, cV, h3, if_true]
def a6W (P : Program) (H : Heap) (t : TypeId) (x k : Value) (c : Bool) (K : Value → Prop) (_k : Keep K := ⟨⟩) : Prop := ∃ v, pJ P H t x k c = some v ∧ K v
theorem a6h {t : TypeId} {x x' k k' : Value} {c : Bool} {K : Value → Prop} (h : x = x') (h2 : k = k') : a6W P H t x k c K = a6W P H t x' k' c K := by rw [h, h2]
attribute [congr] a6h
theorem b0f (d ty pos af g) (t : TypeId) (x k : Operand) (c : Bool) (l : List Value) (K : Value → Heap → Prop) :
 mA P ⟨d, .lookup t x k c, ty, pos, af, g⟩ l H K = jJ x l fun x => jJ k l fun k => a6W P H t x k c fun v => K v H := by
 have h2 : kD ((pJ P H t (ev l x) (ev l k) c).map fun v => (v, H)) K = ∃ v, pJ P H t (ev l x) (ev l k) c = some v ∧ K v H := by
  cases pJ P H t (ev l x) (ev l k) c <;> simp [kD]
 simp only [mA, opD, jJ, Op.operands, a6W, h2]
 simp [and_assoc]
theorem St.bN (hS : St P H0 H os) (i : Nat) {A : Nat} {kvs : List (κ × β)} (ho : os[i]? = some ⟨.map (some A), 0, kcs enc f kvs⟩) (hk : MapK P t enc z) (hf : ∀ b, mU (f b) = true) {c : Bool} {k : κ} {K : Value → Prop}
 (h : K (pairV c (((a1s kvs k).map f).getD z) (a1s kvs k).isSome)) : a6W P H t (.map (some A)) (enc k) c K := ⟨_, hS.cR i ho hk hf c k, h⟩
def a5h (P : Program) (H : Heap) (t : TypeId) (K : Value → Heap → Prop) (_k : Keep K := ⟨⟩) : Prop := ∃ v H1, pM P H t none = some (v, H1) ∧ K v H1
theorem a5V (d ty pos af g) (t : TypeId) (l : List Value) (K : Value → Heap → Prop) : mA P ⟨d, .makeMap t none, ty, pos, af, g⟩ l H K = a5h P H t K := by
 simp only [mA, opD, Op.operands, a5h, mP]
 simp
theorem St.bS (hS : St P H0 H os) (hk : MapK P t enc z) {K : Value → Heap → Prop} (h : ∀ A H1, St P H0 H1 (os ++ [⟨.map (some A), 0, []⟩]) → K (.map (some A)) H1) : a5h P H t K := by
 obtain ⟨kt, et, h1, _⟩ := hk.ex
 refine ⟨.map (some H.length), H.cons (.map [] 0 0), by simp [pM, h1], h _ _ (hS.add ?_ ?_ ?_ ?_)⟩
 ·unfold OwnAt
  rw [if_pos rfl]
  exact .inr ⟨_, [], 0, 0, iN H _, rfl, rfl, .nil 0⟩
 ·simp [pI]
 ·exact fun B hB => jP _ hB
 ·intro B hB
  simp [kI] at hB
  omega
def b6Y (P : Program) (H : Heap) (t : TypeId) (m k v : Value) (K : Heap → Prop) (_k : Keep K := ⟨⟩) : Prop := ∃ H1, a0U P H t m k v = some H1 ∧ K H1
theorem a9H {t : TypeId} {m m' k k' v v' : Value} {K : Heap → Prop} (h : m = m') (h2 : k = k') (h3 : v = v') : b6Y P H t m k v K = b6Y P H t m' k' v' K := by rw [h, h2, h3]
attribute [congr] a9H
theorem a2T (d ty pos af g) (t : TypeId) (m k v : Operand) (l : List Value) (K : Value → Heap → Prop) :
 mA P ⟨d, .mapUpdate t m k v, ty, pos, af, g⟩ l H K = jJ m l fun m => jJ k l fun k => jJ v l fun v => b6Y P H t m k v fun H1 => K undef H1 := by
 have h2 : kD ((a0U P H t (ev l m) (ev l k) (ev l v)).map fun H => (undef, H)) K = ∃ H1, a0U P H t (ev l m) (ev l k) (ev l v) = some H1 ∧ K undef H1 := by
  cases a0U P H t (ev l m) (ev l k) (ev l v) <;> simp [kD]
 simp only [mA, opD, jJ, Op.operands, b6Y, h2]
 simp [and_assoc]
theorem b0y (kvs : List (κ × β)) (k : κ) (v : β) : a5A kvs k v = match (kvs.map (·.1)).findIdx? (fun x => decide (x = k)) with | some j => kvs.set j (k, v) | none => kvs ++ [(k, v)] := by
 unfold a5A
 rw [List.findIdx?_map]
 rfl
theorem St.cd (hS : St P H0 H os) (i : Nat) {A : Nat} {kvs : List (κ × β)} (ho : os[i]? = some ⟨.map (some A), 0, kcs enc f kvs⟩) (hk : MapK P t enc z) {k : κ} {v : β} {K : Heap → Prop}
 (h : ∀ H1, St P H0 H1 (os.set i ⟨.map (some A), 0, kcs enc f (a5A kvs k v)⟩) → K H1) : b6Y P H t (.map (some A)) (enc k) (f v) K := by
 obtain ⟨kt, et, h1, h2, h3, h4, h5, h6⟩ := hk.ex
 obtain ⟨es, ck, ver, h7, h8, hst⟩ := hS.bX i ho
 obtain ⟨h9, h10⟩ := a4A es kvs h8
 have hi := h5 k es (kvs.map (·.1)) (by rw [h9]; simp [gV])
 have fin : ∀ es' ck', mcs es' = kcs enc f (a5A kvs k v) → Stamps es' ck' → St P H0 (hset H A (.map es' ck' (ver + 1))) (os.set i ⟨.map (some A), 0, kcs enc f (a5A kvs k v)⟩) := by
  intro es' ck' he hst'
  refine hS.put i ho ?_ ?_ ?_ ?_
  ·unfold OwnAt
   rw [if_pos rfl]
   exact .inr ⟨A, es', ck', _, iS _ (jK h7), he.symm, rfl, hst'⟩
  ·rw [jN]; exact dg _
  ·intro B hB hne
   exact qV fun hh => hne (by simp [kI, hh])
  ·exact fun B hB => .inl hB
 rcases b1z kvs k with ⟨j, x, e1, e2, _⟩ | ⟨e1, _⟩
 ·have hj : es[j]?.map (·.key) = some (enc x.1) := by
   rw [← eL, h9, eL, e2]; rfl
  have hx : x.1 = k := by
   have := List.findIdx?_eq_some_iff_getElem.1 e1
   obtain ⟨hlt, hd, _⟩ := this
   have hlt' : j < kvs.length := by simpa using hlt
   have : kvs[j] = x := by
    rw [dm hlt'] at e2
    exact cT e2
   simp [this] at hd
   exact hd
  cases he : es[j]? with
  | none => rw [he] at hj; simp at hj
  | some e =>
    rw [he] at hj
    simp only [dK, dB] at hj
    refine ⟨hset H A (.map (es.set j { e with key := enc k, val := f v }) ck (ver + 1)), ?_, h _ (fin _ _ ?_ (hst.set he _ rfl))⟩
    ·have hsb : Instr.sameBits 10000 e.key (enc k) = true := by rw [hj, hx]; exact h6 k
     simp only [a0U, h1, cV, h7, h4, if_true, hi, e1, he, hsb]
    ·symm
     rw [b0y, e1]
     refine b0h _ _ ?_ ?_
     ·rw [gW, gW, h9]
     ·rw [gW, gW, h10]
 ·refine ⟨hset H A (.map (es ++ [{ key := enc k, val := f v, born := ck }]) (ck + 1) (ver + 1)), ?_, h _ (fin _ _ ?_ (hst.push _ rfl))⟩
  ·simp only [a0U, h1, cV, h7, h4, if_true, hi, e1]
  ·symm
   rw [b0y, e1]
   refine b0h _ _ ?_ ?_
   ·rw [dR, dR, h9]; rfl
   ·rw [dR, dR, h10]; rfl
def b9s (P : Program) (H : Heap) (t : TypeId) (m k : Value) (K : Value → Heap → Prop) (_k : Keep K := ⟨⟩) : Prop := ∃ v H1, tE P H t m k = some (v, H1) ∧ K v H1
theorem a8G {t : TypeId} {m m' k k' : Value} {K : Value → Heap → Prop} (h : m = m') (h2 : k = k') : b9s P H t m k K = b9s P H t m' k' K := by rw [h, h2]
attribute [congr] a8G
def b1m (H : Heap) (m b v : Value) (K : Heap → Prop) (_k : Keep K := ⟨⟩) : Prop := ∃ H1, rS H m b v = some H1 ∧ K H1
theorem a6R {m m' b b' v v' : Value} {K : Heap → Prop} (h : m = m') (h2 : b = b') (h3 : v = v') : b1m H m b v K = b1m H m' b' v' K := by rw [h, h2, h3]
attribute [congr] a6R
theorem a5o (d ty pos af g) (t : TypeId) (m k : Operand) (l : List Value) (K : Value → Heap → Prop) :
 mA P ⟨d, .mapEntry t m k, ty, pos, af, g⟩ l H K = jJ m l fun m => jJ k l fun k => b9s P H t m k K := by
 have h2 : kD (tE P H t (ev l m) (ev l k)) K = ∃ v H1, tE P H t (ev l m) (ev l k) = some (v, H1) ∧ K v H1 := mP ..
 simp only [mA, opD, jJ, Op.operands, b9s, h2]
 simp [and_assoc]
theorem a1w (d ty pos af g) (t : TypeId) (m b v : Operand) (l : List Value) (K : Value → Heap → Prop) :
 mA P ⟨d, .entryStore t m b v, ty, pos, af, g⟩ l H K = jJ m l fun m => jJ b l fun b => jJ v l fun v => b1m H m b v fun H1 => K undef H1 := by
 have h2 : kD ((rS H (ev l m) (ev l b) (ev l v)).map fun H => (undef, H)) K = ∃ H1, rS H (ev l m) (ev l b) (ev l v) = some H1 ∧ K undef H1 := by
  cases rS H (ev l m) (ev l b) (ev l v) <;> simp [kD]
 simp only [mA, opD, jJ, Op.operands, b1m, h2]
 simp [and_assoc]
theorem a1A (kvs : List (κ × β)) (k k' : κ) (v : β) : a1s (a5A kvs k v) k' = if k' = k then some v else a1s kvs k' := by
 unfold a1s a5A
 induction kvs with
 | nil =>
   by_cases h : k' = k
   ·simp [h]
   ·simp [h, eY h]
 | cons p kvs ih =>
   by_cases hp : p.1 = k
   ·simp only [eW, hp, decide_true, if_true, fh, List.find?_cons]
    by_cases h : k' = k
    ·simp [h]
    ·simp [h, eY h]
   ·have hd : decide (p.1 = k) = false := by simp [hp]
    simp only [eW, hd, dW, if_false]
    by_cases hq : p.1 = k'
    ·have hne : ¬ k' = k := fun e => hp (hq.trans e)
     cases hh : kvs.findIdx? (fun p => decide (p.1 = k)) with
     | none => simp [hq, hne]
     | some j => simp [hq, hne]
    ·cases hh : kvs.findIdx? (fun p => decide (p.1 = k)) with
     | none =>
       rw [hh] at ih
       simpa [hq, List.find?_cons] using ih
     | some j =>
       rw [hh] at ih
       simpa [hq, List.find?_cons] using ih
end
end Go.Ds
namespace Go.Ds
noncomputable section
variable {P : Program} {H : Heap}
theorem kQ {α : Type} (P : Program) (x : α) : iL P (pure x) = some x := rfl
theorem jW {t : TypeId} {d : TypeDesc} (h : P.underlying t = some d) : iL P (underlying t) = some d := by
 unfold underlying
 rw [iK]
 have : iL P program = some P := rfl
 rw [this, cV, h]
 rfl
def lF : Operand → Bool
 | .const _ => true
 | _ => false
def oR (c : Bool) (i : Nat) (v : Value) : Operand := if c then .const v else .tmp i
def kV (P : Program) (op : BinOp) (t t2 : TypeId) (cx cy : Bool) (x y : Value) : Option Value := (opD P ⟨none, .binOp op t (oR cx 0 x) (oR cy 1 y) t2, t, "", #[], none⟩ [x, y] .nil).map (·.1)
def kY (P : Program) (op : BinOp) (t t2 : TypeId) (cx cy : Bool) (x y : Value) (K : Value → Prop) (_k : Keep K := ⟨⟩) : Prop := match x, y with
 | .int k a, .int k' b => (match (if k = k' then mM op k a b else none) with | some v => K v | none => jX (kV P op t t2 cx cy (.int k a) (.int k' b)) K)
 | x, y => jX (kV P op t t2 cx cy x y) K
theorem a5G {op : BinOp} {t t2 : TypeId} {cx cy : Bool} {x x' y y' : Value} {K : Value → Prop} (h : x = x') (h2 : y = y') : kY P op t t2 cx cy x y K = kY P op t t2 cx cy x' y' K := by rw [h, h2]
attribute [congr] a5G
theorem a8D (x : Operand) (l m : List Value) : ev (ev l x :: m) (oR (lF x) 0 (ev l x)) = ev l x := by cases x <;> rfl
theorem a8j (x : Operand) (l m : List Value) (a : Value) : ev (a :: ev l x :: m) (oR (lF x) 1 (ev l x)) = ev l x := by cases x <;> rfl
theorem b7m (op : BinOp) (t : TypeId) (x y : Operand) (l : List Value) : eqGuard op t x y (ev l x) (ev l y) = eqGuard op t (oR (lF x) 0 (ev l x)) (oR (lF y) 1 (ev l y)) (ev l x) (ev l y) := by
 generalize hx : ev l x = vx
 generalize hy : ev l y = vy
 cases x <;> cases y <;> rfl
theorem b9M (d ty pos af g) (op : BinOp) (t : TypeId) (x y : Operand) (t2 : TypeId) (l : List Value) (H : Heap) :
 opD P ⟨d, .binOp op t x y t2, ty, pos, af, g⟩ l H = (kV P op t t2 (lF x) (lF y) (ev l x) (ev l y)).map fun v => (v, H) := by
 have hp : kO P ⟨d, .binOp op t x y t2, ty, pos, af, g⟩ l H = _ := mZ (P := P) ⟨d, .binOp op t x y t2, ty, pos, af, g⟩ ⟨none, .binOp op t (oR (lF x) 0 (ev l x)) (oR (lF y) 1 (ev l y)) t2, t, "", #[], none⟩ l [ev l x, ev l y] H
  (by simp only [Op.operands, eu, gh, a8D, a8j]) (by
    simp only [execOp]
    rw [a8D, a8j, ← b7m])
 simp only [opD, kV, hp, a8D, a8j]
 generalize kO P _ _ _ = r
 generalize ev l x = vx
 generalize ev l y = vy
 split
 all_goals first
  | (split <;> first | rfl | (split <;> first | rfl | (cases r <;> rfl)) | (cases r <;> rfl))
  | (cases r <;> rfl)
theorem b5t (d ty pos af g) (op : BinOp) (t : TypeId) (x y : Operand) (t2 : TypeId) (l : List Value) (K : Value → Heap → Prop) :
 mA P ⟨d, .binOp op t x y t2, ty, pos, af, g⟩ l H K = jJ x l fun x' => jJ y l fun y' => kY P op t t2 (lF x) (lF y) x' y' fun v => K v H := by
 have h : kD (opD P ⟨d, .binOp op t x y t2, ty, pos, af, g⟩ l H) K = kY P op t t2 (lF x) (lF y) (ev l x) (ev l y) fun v => K v H := by
  have key : kD ((kV P op t t2 (lF x) (lF y) (ev l x) (ev l y)).map fun v => (v, H)) K = jX (kV P op t t2 (lF x) (lF y) (ev l x) (ev l y)) fun v => K v H := by
   cases kV P op t t2 (lF x) (lF y) (ev l x) (ev l y) <;> rfl
  rw [b9M, key]
  unfold kY
  split
  ·rename_i k a k' b hx hy
   split
   ·rename_i v hv
    split at hv
    ·rename_i hk
     subst hk
     have : kV P op t t2 (lF x) (lF y) (.int k a) (.int k b) = some v := by
      have h1 : ∀ m, ev ((.int k a : Value) :: m) (oR (lF x) 0 (.int k a)) = .int k a := fun m => by cases lF x <;> rfl
      have h2 : ∀ m c, ev (c :: (.int k b : Value) :: m) (oR (lF y) 1 (.int k b)) = .int k b := fun m c => by cases lF y <;> rfl
      cases op <;> simp only [mM] at hv <;> first | (cases hv; done) | (simp only [kV, opD, h1, h2, mM, if_true, hv]; rfl)
     rw [hx, hy, this]
     rfl
    ·cases hv
   ·rw [hx, hy]
  ·rfl
 simp only [mA, h, jJ, Op.operands]
 simp [and_assoc]
theorem lZ (op : BinOp) (t t2 : TypeId) (cx cy : Bool) (k : IntKind) (a b : Int) {v : Value} (K : Value → Prop) (h : mM op k a b = some v) : kY P op t t2 cx cy (.int k a) (.int k b) K = oS v K := by
 simp [kY, h, oS]
section
theorem b2s (t t2 : TypeId) (cx cy : Bool) (k : IntKind) (a b : Int) (K : Value → Prop) : kY P .add t t2 cx cy (.int k a) (.int k b) K = oS (.int k (k.wrap (a + b))) K := lZ _ _ _ _ _ _ _ _ _ (by simp [mM, b1v, uI])
theorem b3g (t t2 : TypeId) (cx cy : Bool) (k : IntKind) (a b : Int) (K : Value → Prop) : kY P .sub t t2 cx cy (.int k a) (.int k b) K = oS (.int k (k.wrap (a - b))) K := lZ _ _ _ _ _ _ _ _ _ (by simp [mM, b0F, uI])
theorem b1Q (t t2 : TypeId) (cx cy : Bool) (k : IntKind) (a b : Int) (K : Value → Prop) : kY P .mul t t2 cx cy (.int k a) (.int k b) K = oS (.int k (k.wrap (a * b))) K := lZ _ _ _ _ _ _ _ _ _ (by simp [mM, uI])
theorem b2B (t t2 : TypeId) (cx cy : Bool) (k : IntKind) (a b : Int) (K : Value → Prop) : kY P .eql t t2 cx cy (.int k a) (.int k b) K = oS (.bool (decide (a = b))) K := lZ _ _ _ _ _ _ _ _ _ (by simp [mM, a2k]; rfl)
theorem b2F (t t2 : TypeId) (cx cy : Bool) (k : IntKind) (a b : Int) (K : Value → Prop) : kY P .neq t t2 cx cy (.int k a) (.int k b) K = oS (.bool (decide (¬ a = b))) K := lZ _ _ _ _ _ _ _ _ _ (by simp [mM, a2k]; rfl)
theorem b2Q (t t2 : TypeId) (cx cy : Bool) (k : IntKind) (a b : Int) (K : Value → Prop) : kY P .lss t t2 cx cy (.int k a) (.int k b) K = oS (.bool (decide (a < b))) K := lZ _ _ _ _ _ _ _ _ _ (by simp [mM, a0v])
theorem b3G (t t2 : TypeId) (cx cy : Bool) (k : IntKind) (a b : Int) (K : Value → Prop) : kY P .leq t t2 cx cy (.int k a) (.int k b) K = oS (.bool (decide (a ≤ b))) K := lZ _ _ _ _ _ _ _ _ _ (by simp [mM, a0v, ← Int.not_lt])
theorem b2Y (t t2 : TypeId) (cx cy : Bool) (k : IntKind) (a b : Int) (K : Value → Prop) : kY P .gtr t t2 cx cy (.int k a) (.int k b) K = oS (.bool (decide (b < a))) K := lZ _ _ _ _ _ _ _ _ _ (by simp [mM, a0v])
theorem b2l (t t2 : TypeId) (cx cy : Bool) (k : IntKind) (a b : Int) (K : Value → Prop) : kY P .geq t t2 cx cy (.int k a) (.int k b) K = oS (.bool (decide (b ≤ a))) K := lZ _ _ _ _ _ _ _ _ _ (by simp [mM, a0v, ← Int.not_lt])
theorem b2P (t t2 : TypeId) (cx cy : Bool) (k : IntKind) (a b : Int) (K : Value → Prop) (hb : b ≠ 0) : kY P .rem t t2 cx cy (.int k a) (.int k b) K = oS (.int k (a.tmod b)) K := lZ _ _ _ _ _ _ _ _ _ (by
 have : (b == 0) = false := by simp [hb]
 simp [mM, a2k, this])
theorem b2y (t t2 : TypeId) (cx cy : Bool) (k : IntKind) (a b : Int) (K : Value → Prop) (hb : b ≠ 0) : kY P .quo t t2 cx cy (.int k a) (.int k b) K = oS (.int k (k.wrap (a.tdiv b))) K := lZ _ _ _ _ _ _ _ _ _ (by
 have : (b == 0) = false := by simp [hb]
 simp [mM, a2k, uI, this])
end
theorem lM {op : BinOp} {t t2 : TypeId} {cx cy : Bool} {x y v : Value} (hx : flat x = true) (hy : flat y = true) (hg : iL P (eqGuard op t (oR cx 0 x) (oR cy 1 y) x y) = some ())
 (hv : iL P (binOp op t x y) = some v) (hf : flat v = true) (hs : ∀ a n c, x ≠ .slice (some a) n c) (hp : ∀ a, x ≠ .pointer (some a)) (hi : ∀ k a b, x = .int k a → y = .int k b → mM op k a b = none) : kV P op t t2 cx cy x y = some v := by
 have h1 : ∀ m, ev (x :: m) (oR cx 0 x) = x := fun m => by cases cx <;> rfl
 have h2 : ∀ m c, ev (c :: y :: m) (oR cy 1 y) = y := fun m c => by cases cy <;> rfl
 have hpl : kO P ⟨none, .binOp op t (oR cx 0 x) (oR cy 1 y) t2, t, "", #[], none⟩ [x, y] .nil = some (v, .nil) := by
  unfold kO
  rw [if_pos (by simp [Op.operands, h1, h2, hx, hy])]
  have : execOp (ev [x, y]) ⟨none, .binOp op t (oR cx 0 x) (oR cy 1 y) t2, t, "", #[], none⟩ = (do let v ← (do eqGuard op t (oR cx 0 x) (oR cy 1 y) x y; binOp op t x y); pure (.value v)) := by
   simp only [execOp, h1, h2]
  rw [this, iK, iK, hg, cV, hv, cV, kQ]
  simp only [hf, if_true]
 simp only [kV, opD, h1, h2, hpl]
 split
 ·exact absurd rfl (hs _ _ _)
 ·exact absurd rfl (hs _ _ _)
 ·rename_i k a k' b
  split
  ·rename_i hk
   subst hk
   rw [hi _ _ _ rfl rfl]
   rfl
  ·rfl
 ·exact absurd rfl (hp _)
 ·exact absurd rfl (hp _)
 ·exact absurd rfl (hp _)
 ·exact absurd rfl (hp _)
 ·rfl
theorem qK {op : BinOp} {t : TypeId} {x y : Operand} {k k' : IntKind} {a b : Int} : iL P (eqGuard op t x y (.int k a) (.int k' b)) = some () := by
 unfold eqGuard
 split <;> rfl
section
theorem b4p (t t2 : TypeId) (cx cy : Bool) (a b : Int) {k k' : IntKind} (hb : 0 ≤ b) : kV P .shr t t2 cx cy (.int k a) (.int k' b) = some (.int k (a.fdiv (2 ^ (min b.toNat k.bits)))) :=
 lM rfl rfl qK (by simp only [binOp, Op.shift]; rw [if_neg (by omega)]; rfl) rfl (by simp) (by simp) (by intros; rfl)
theorem b6s (t t2 : TypeId) (cx cy : Bool) (a b : Int) {k k' : IntKind} (hb : 0 ≤ b) : kV P .shl t t2 cx cy (.int k a) (.int k' b) = some (.int k (k.wrap (a * 2 ^ (min b.toNat k.bits)))) :=
 lM rfl rfl qK (by simp only [binOp, Op.shift]; rw [if_neg (by omega)]; rfl) rfl (by simp) (by simp) (by intros; rfl)
theorem b6N (t t2 : TypeId) (cx cy : Bool) (a b : Int) (k : IntKind) : kV P .and t t2 cx cy (.int k a) (.int k b) = some (.int k (k.wrap (BitVec.ofInt k.bits a &&& BitVec.ofInt k.bits b).toNat)) :=
 lM rfl rfl qK (by simp only [binOp]; rw [if_neg (by simp)]; rfl) rfl (by simp) (by simp) (by intros; rfl)
theorem b8H (t t2 : TypeId) (cx cy : Bool) (a b : Int) (k : IntKind) : kV P .or t t2 cx cy (.int k a) (.int k b) = some (.int k (k.wrap (BitVec.ofInt k.bits a ||| BitVec.ofInt k.bits b).toNat)) :=
 lM rfl rfl qK (by simp only [binOp]; rw [if_neg (by simp)]; rfl) rfl (by simp) (by simp) (by intros; rfl)
theorem b7i (t t2 : TypeId) (cx cy : Bool) (a b : Int) (k : IntKind) : kV P .xor t t2 cx cy (.int k a) (.int k b) = some (.int k (k.wrap (BitVec.ofInt k.bits a ^^^ BitVec.ofInt k.bits b).toNat)) :=
 lM rfl rfl qK (by simp only [binOp]; rw [if_neg (by simp)]; rfl) rfl (by simp) (by simp) (by intros; rfl)
theorem a7y (t t2 : TypeId) (cx cy : Bool) (a b : Int) (k : IntKind) : kV P .andNot t t2 cx cy (.int k a) (.int k b) = some (.int k (k.wrap (BitVec.ofInt k.bits a &&& ~~~ BitVec.ofInt k.bits b).toNat)) :=
 lM rfl rfl qK (by simp only [binOp]; rw [if_neg (by simp)]; rfl) rfl (by simp) (by simp) (by intros; rfl)
end
section
variable (a b : ByteArray)
theorem zT {op : BinOp} {t : TypeId} {x y : Operand} : iL P (eqGuard op t x y (.string a) (.string b)) = some () := by
 unfold eqGuard
 split <;> rfl
theorem a0C (h : a.data.toList = b.data.toList) : a = b := by
 cases a; cases b
 simp only [ByteArray.mk.injEq]
 exact Array.toList_inj.1 h
theorem a1E : (a.toList == b.toList) = decide (a = b) := by
 rw [ByteArray.toList_eq, ByteArray.toList_eq, ez, beq_iff_eq, decide_eq_true_iff]
 exact ⟨a0C a b, fun h => by rw [h]⟩
theorem a9k (t t2 : TypeId) (cx cy : Bool) (a b : ByteArray) : kV P .eql t t2 cx cy (.string a) (.string b) = some (.bool (decide (a = b))) :=
 lM rfl rfl (zT a b) (by rw [← a1E]; rfl) rfl (by simp) (by simp) (by intro _ _ _ h; cases h)
theorem a9z (t t2 : TypeId) (cx cy : Bool) (a b : ByteArray) : kV P .neq t t2 cx cy (.string a) (.string b) = some (.bool (decide (¬ a = b))) :=
 lM rfl rfl (zT a b) (by
  have : decide (¬ a = b) = !(a.toList == b.toList) := by rw [a1E]; simp
  rw [this]; rfl) rfl (by simp) (by simp) (by intro _ _ _ h; cases h)
theorem a6g (t t2 : TypeId) (cx cy : Bool) (a b : ByteArray) (h : a.size + b.size < 9223372036854775808) : kV P .add t t2 cx cy (.string a) (.string b) = some (.string (a ++ b)) :=
 lM rfl rfl (zT a b) (by
  simp only [binOp, Op.stringOp]
  rw [if_neg]
  ·rfl
  ·have : IntKind.i64.max = 9223372036854775807 := by decide
   rw [this]; omega) rfl (by simp) (by simp) (by intro _ _ _ h; cases h)
end
theorem b6d {t : TypeId} (s : ByteArray) (ht : oF P t = true) : a0p P H t (.string s) = some (.int .i64 s.size) := by
 unfold oF at ht
 unfold a0p
 split at ht
 ·rename_i h; rw [h]; simp [wP, goInt]
 ·cases ht
def pH (P : Program) (t : TypeId) (x i : Value) : Option Value := (opD P ⟨none, .index t (.const x) (.const i), t, "", #[], none⟩ [] .nil).map (·.1)
theorem b2w (d ty pos af g) (t : TypeId) (x i : Operand) (l : List Value) (K : Value → Heap → Prop) :
 mA P ⟨d, .index t x i, ty, pos, af, g⟩ l H K = jJ x l fun x => jJ i l fun i => jX (pH P t x i) fun v => K v H := by
 have h : opD P ⟨d, .index t x i, ty, pos, af, g⟩ l H = (pH P t (ev l x) (ev l i)).map fun v => (v, H) := by
  have hp := mZ (P := P) ⟨d, .index t x i, ty, pos, af, g⟩ ⟨none, .index t (.const (ev l x)) (.const (ev l i)), t, "", #[], none⟩ l [] H rfl rfl
  simp only [opD, pH]
  exact hp
 have h2 : kD ((pH P t (ev l x) (ev l i)).map fun v => (v, H)) K = jX (pH P t (ev l x) (ev l i)) fun v => K v H := by cases pH P t (ev l x) (ev l i) <;> rfl
 simp only [mA, h, jJ, Op.operands, h2]
 simp [and_assoc]
def oG (s : ByteArray) (i : Nat) : Nat := (s.data.toList.getD i 0).toNat
theorem a8o {t : TypeId} (s : ByteArray) (k : IntKind) (i : Int) (ht : oF P t = true) (h0 : 0 ≤ i) (h1 : i < s.size) : pH P t (.string s) (.int k i) = some (.int .u8 (oG s i.toNat)) := by
 have hu : P.underlying t = some .string := by
  unfold oF at ht
  split at ht
  ·rename_i h; exact h
  ·cases ht
 have hr : iL P (Instr.index t (.string s) (.int k i)) = some (.int .u8 (oG s i.toNat)) := by
  unfold Instr.index
  rw [iK]
  have e1 : iL P (asIntOf (.int k i)) = some (k, i) := rfl
  rw [e1, cV]
  simp only [iK, jW hu, cV]
  rw [if_pos h0]
  have hlt : i.toNat < s.size := by omega
  have hb : s[i.toNat]? = some s[i.toNat] := by simp [getElem?_pos, hlt]
  simp only [hb]
  rw [kQ]
  congr 3
  unfold oG
  rw [cY]
  have hl : i.toNat < s.data.toList.length := by simpa using hlt
  rw [dm hl]
  rfl
 have hpl : kO P ⟨none, .index t (.const (.string s)) (.const (.int k i)), t, "", #[], none⟩ [] .nil = some (.int .u8 (oG s i.toNat), .nil) := by
  unfold kO
  rw [if_pos (by rfl)]
  have : execOp (ev []) ⟨none, .index t (.const (.string s)) (.const (.int k i)), t, "", #[], none⟩ = (do let v ← Instr.index t (.string s) (.int k i); pure (.value v)) := rfl
  rw [this, iK, hr, cV, kQ]
  rfl
 simp only [pH, opD, hpl]
 rfl
def a0Y (P : Program) (t : TypeId) : Option IntKind := match P.underlying t with | some (.int k) => some k | _ => none
theorem a0i {t : TypeId} {k : IntKind} (h : a0Y P t = some k) : P.underlying t = some (.int k) := by
 unfold a0Y at h
 split at h
 ·rename_i h2; rw [h2]; injection h with h; rw [h]
 ·cases h
theorem b3j {s t : TypeId} {k k' : IntKind} (a : Int) (hs : a0Y P s = some k) (ht : a0Y P t = some k') : a2o P s t (.int k a) = some (.int k' (k'.wrap a)) := by
 have hr : iL P (convert s t (.int k a)) = some (.int k' (k'.wrap a)) := by
  unfold convert
  simp only [iK, jW (a0i hs), jW (a0i ht), cV]
  rfl
 have hpl : kO P ⟨none, .convert s t (.const (.int k a)), t, "", #[], none⟩ [] .nil = some (.int k' (k'.wrap a), .nil) := by
  unfold kO
  rw [if_pos (by rfl)]
  have : execOp (ev []) ⟨none, .convert s t (.const (.int k a)), t, "", #[], none⟩ = (do let v ← convert s t (.int k a); pure (.value v)) := rfl
  rw [this, iK, hr, cV, kQ]
  rfl
 simp only [a2o, hpl]
 rfl
def a4M (P : Program) (d : Nat) (xs ys : Array Value) (fs : List Field) : Option Bool :=
 (iL P (forIn fs ((none, ()) : Option Bool × Unit) fun f _ =>
   if f.name ≠ "_" then do
    let a ← part f.type xs f.offset
    let b ← part f.type ys f.offset
    let c ← Op.equalIn d f.type a b
    if (!c) = true then pure (ForInStep.done (some false, ())) else pure (ForInStep.yield (none, ()))
   else pure (ForInStep.yield (none, ())))).bind fun x => iL P (match x.fst with | some r => pure r | none => pure true)
theorem a1J {d : Nat} {xs ys : Array Value} (g : Field → Bool) : ∀ (fs : List Field), (∀ f ∈ fs, f.name ≠ "_" ∧ iL P (part f.type xs f.offset >>= fun x => part f.type ys f.offset >>= fun y => Op.equalIn d f.type x y) = some (g f)) →
 a4M P d xs ys fs = some (fs.all g)
 | [], _ => rfl
 | f :: fs, hg => by
   obtain ⟨h1, h2⟩ := hg f (dJ ..)
   have ih := a1J g fs fun f' h => hg f' (dP _ h)
   unfold a4M at ih ⊢
   rw [iK] at h2
   simp only [List.forIn_cons, h1, ne_eq, not_false_eq_true, if_true, iK]
   cases hx : iL P (part f.type xs f.offset) with
   | none => rw [hx] at h2; cases h2
   | some x =>
     rw [hx, cV, iK] at h2
     cases hy : iL P (part f.type ys f.offset) with
     | none => rw [hy] at h2; cases h2
     | some y =>
       rw [hy, cV] at h2
       simp only [cV, h2]
       cases hgf : g f with
       | false =>
         simp only [Bool.not_false, if_true, kQ, cV, fm, hgf, ft]
       | true =>
         simp only [Bool.not_true, dW, if_false, kQ, cV, fm, hgf, gL]
         exact ih
theorem b4b {d : Nat} {t : TypeId} {fs : List Field} {xs ys : Array Value} (hu : P.underlying t = some (.struct fs.toArray)) (hst : P.stoodInHeld t = false) (g : Field → Bool)
 (hg : ∀ f ∈ fs, f.name ≠ "_" ∧ iL P (part f.type xs f.offset >>= fun x => part f.type ys f.offset >>= fun y => Op.equalIn d f.type x y) = some (g f)) : iL P (Op.equalIn (d + 1) t (.agg xs) (.agg ys)) = some (fs.all g) := by
 rw [Op.equalIn, iK, jW hu, cV]
 have hp : iL P program = some P := rfl
 simp only [iK, hp, cV, hst, dW, if_false, List.forIn_toArray]
 refine Eq.trans ?_ (a1J g fs hg)
 unfold a4M
 congr 1
 funext x
 cases x.fst <;> rfl
theorem a3O {op : BinOp} {t : TypeId} (ht : P.eqGuardType P.depth t = false) {x y : Operand} {a b : Array Value} : iL P (eqGuard op t x y (.agg a) (.agg b)) = some () := by
 have hp : iL P program = some P := rfl
 unfold eqGuard
 cases op <;> simp [iK, hp, ht, kQ]
theorem b6x {t t2 : TypeId} {cx cy : Bool} {xs ys : List Value} (b : Bool) (ht : P.eqGuardType P.depth t = false) (hx : xs.all iX = true) (hy : ys.all iX = true) (h : iL P (Op.equalIn (9999 + 1) t (.agg xs.toArray) (.agg ys.toArray)) = some b) :
 kV P .eql t t2 cx cy (.agg xs.toArray) (.agg ys.toArray) = some (.bool b) :=
 lM (by simp [flat, jB, kK, hx]) (by simp [flat, jB, kK, hy]) (a3O ht) (by
  have hmd : Op.maxDepth = 9999 + 1 := by decide
  simp only [binOp, iK, Op.equal]
  rw [hmd, h, cV, kQ]) rfl (by simp) (by simp) (by intro _ _ _ h; cases h)
theorem b4L {t t2 : TypeId} {cx cy : Bool} {xs ys : List Value} (b : Bool) (ht : P.eqGuardType P.depth t = false) (hx : xs.all iX = true) (hy : ys.all iX = true) (h : iL P (Op.equalIn (9999 + 1) t (.agg xs.toArray) (.agg ys.toArray)) = some b) :
 kV P .neq t t2 cx cy (.agg xs.toArray) (.agg ys.toArray) = some (.bool (!b)) :=
 lM (by simp [flat, jB, kK, hx]) (by simp [flat, jB, kK, hy]) (a3O ht) (by
  have hmd : Op.maxDepth = 9999 + 1 := by decide
  simp only [binOp, iK, Op.equal]
  rw [hmd, h, cV, kQ]) rfl (by simp) (by simp) (by intro _ _ _ h; cases h)
end
end Go.Ds
namespace Go.Ds
noncomputable section
variable {P : Program} {H : Heap}
theorem a1B (a b : ByteArray) : (a == b) = decide (b = a) := by
 obtain ⟨x⟩ := a
 obtain ⟨y⟩ := b
 rw [ez, decide_eq_true_iff]
 constructor
 ·intro h
  have e : x = y := by simpa using (show (x == y) = true from h)
  rw [e]
 ·intro h
  cases h
  show (x == x) = true
  simp
theorem a3J (o : Option Nat) (i : Nat) : o.map (i + 1 + ·) = (o.map (· + 1)).map (i + ·) := by
 cases o with
 | none => rfl
 | some j => simp only [dK]; congr 1; omega
theorem a0A (k : ByteArray) : ∀ (es : List MapEntry) (ks : List ByteArray) (i : Nat), es.map (·.key) = ks.map Value.string →
 (Instr.findNow .string (.string k) (es.map wQ) i).map (·.map (·.1)) = some ((ks.findIdx? fun x => decide (x = k)).map (i + ·))
 | [], [], i, _ => rfl
 | [], _ :: _, _, h => by simp at h
 | _ :: _, [], _, h => by simp at h
 | e :: es, s :: ks, i, h => by
   simp only [eu, fM] at h
   have hs : Instr.sameNow .string (.string k) e.key = some (decide (s = k)) := by
    rw [h.1]
    show some (k == s) = _
    rw [a1B]
   simp only [eu, Instr.findNow, wQ, hs, eW]
   by_cases hd : s = k
   ·simp [hd]
   ·simp only [hd, decide_false, dW, if_false]
    have := a0A k es ks (i + 1) h.2
    rw [a3J] at this
    exact this
theorem b1c {κ : Type} [DecidableEq κ] {enc : κ → Value} {kt : TypeId} (heq : ∀ a b, iL P (Op.equal kt (enc a) (enc b)) = some (decide (b = a))) (k : κ) : ∀ (es : List MapEntry) (ks : List κ) (i : Nat), es.map (·.key) = ks.map enc →
 (iL P (Instr.findAsking kt (enc k) (es.map wQ) i)).map (·.map (·.1)) = some ((ks.findIdx? fun x => decide (x = k)).map (i + ·))
 | [], [], i, _ => rfl
 | [], _ :: _, _, h => by simp at h
 | _ :: _, [], _, h => by simp at h
 | e :: es, s :: ks, i, h => by
   simp only [eu, fM] at h
   simp only [eu, Instr.findAsking, wQ, iK, eW]
   rw [h.1, heq, cV]
   by_cases hd : s = k
   ·simp [hd, kQ]
   ·simp only [hd, decide_false, dW, if_false]
    have := b1c heq k es ks (i + 1) h.2
    rw [a3J] at this
    exact this
theorem MapK.str {t kt et : TypeId} {z : Value} (hm : xT P t = some (kt, et)) (hu : P.underlying kt = some .string) (hz : jA P et = some z) (hf : jB z = true) : MapK P t Value.string z where
 ex := by
  refine ⟨kt, et, hm, hz, hf, ?_, ?_, ?_⟩
  ·intro b k
   have : iL P (Instr.checkKey b 10000 kt (.string k)) = some () := by
    show iL P (Instr.checkKey b (9999 + 1) kt (.string k)) = some ()
    unfold Instr.checkKey
    rw [iK, jW hu, cV]
    rfl
   simp only [xU, this]
   rfl
  ·intro k es ks h
   have h1 := a0A k es ks 0 h
   unfold rT Instr.findKey
   rw [iK, jW hu, cV]
   cases hn : Instr.findNow .string (.string k) (es.map wQ) 0 with
   | none => rw [hn] at h1; cases h1
   | some r =>
     rw [hn] at h1
     simp only [kQ]
     simpa using h1
  ·intro k
   show (k == k) = true
   rw [a1B]
   simp
theorem MapK.struct {κ : Type} [DecidableEq κ] {enc : κ → Value} {t kt et : TypeId} {z : Value} {fs : Array Field} (hm : xT P t = some (kt, et)) (hu : P.underlying kt = some (.struct fs)) (hz : jA P et = some z) (hf : jB z = true)
 (hk : ∀ b k, xU P b kt (enc k) = true) (heq : ∀ a b, iL P (Op.equal kt (enc a) (enc b)) = some (decide (b = a))) (hsb : ∀ k, Instr.sameBits 10000 (enc k) (enc k) = true) : MapK P t enc z where
 ex := by
  refine ⟨kt, et, hm, hz, hf, hk, ?_, hsb⟩
  intro k es ks h
  have h1 := b1c heq k es ks 0 h
  unfold rT Instr.findKey
  rw [iK, jW hu, cV]
  have key : ∀ (l : List MapEntry), Instr.findNow (.struct fs) (enc k) l 0 = none ∨ l = [] := by
   intro l
   cases l with
   | nil => exact .inr rfl
   | cons e l => exact .inl rfl
  rcases key (es.map wQ) with hn | hn
  ·rw [hn]
   simpa using h1
  ·rw [hn]
   have : es = [] := by simpa using hn
   subst this
   have : ks = [] := by cases ks with | nil => rfl | cons a ks => simp at h
   subst this
   rfl
end
end Go.Ds
namespace Go.Ds
noncomputable section
variable {P : Program} {H : Heap}
def a2G (o : Option (Nat × TypeId)) (P : Program) (H : Heap) (t : TypeId) (z : Value) (K : Value → Heap → Prop) (_k : Keep K := ⟨⟩) : Prop := match o with
 | none => vA (jB z) (a5v P H t z K)
 | some _ => vA (jB z) (a9b P H t z K)
theorem a4C {o o' : Option (Nat × TypeId)} {t : TypeId} {z : Value} {K : Value → Heap → Prop} (h : o = o') : a2G o P H t z K = a2G o' P H t z K := by rw [h]
attribute [congr] a4C
theorem b5r {t : TypeId} (z : Value) (K : Value → Heap → Prop) : uB P H t (some z) K = a2G (jS P t) P H t z K := by
 cases h : jS P t with
 | none => exact a6T z K h
 | some n => exact a9Q z K h
theorem a7n {t : TypeId} (z : Value) (K : Value → Heap → Prop) : a2G none P H t z K = vA (jB z) (a5v P H t z K) := rfl
theorem a6o {t : TypeId} (n : Nat × TypeId) (z : Value) (K : Value → Heap → Prop) : a2G (some n) P H t z K = vA (jB z) (a9b P H t z K) := rfl
theorem a7s {t : TypeId} {k : IntKind} (h : a0Y P t = some k) : lB P t = false := by
 simp [lB, a0i h]
def a3S (ks kt : Option IntKind) (P : Program) (s t : TypeId) (H : Heap) (k : IntKind) (a : Int) (K : Value → Heap → Prop) (_k : Keep K := ⟨⟩) : Prop := match ks, kt with
 | some k0, some k' => if k0 = k then K (.int k' (k'.wrap a)) H else tU P s t H (.int k a) K
 | _, _ => tU P s t H (.int k a) K
theorem a6y {ks ks' kt kt' : Option IntKind} {s t : TypeId} {k : IntKind} {a : Int} {K : Value → Heap → Prop} (h : ks = ks') (h2 : kt = kt') : a3S ks kt P s t H k a K = a3S ks' kt' P s t H k a K := by rw [h, h2]
attribute [congr] a6y
theorem b9w {s t : TypeId} (k : IntKind) (a : Int) (K : Value → Heap → Prop) : tU P s t H (.int k a) K = a3S (a0Y P s) (a0Y P t) P s t H k a K := by
 unfold a3S
 split
 ·rename_i k0 k' hs ht
  split
  ·rename_i hk
   subst hk
   rw [b2m k0 a K (a7s ht), b3j a hs ht]
   rfl
  ·rfl
 ·rfl
theorem b1E {s t : TypeId} (k k' : IntKind) (a : Int) (K : Value → Heap → Prop) : a3S (some k) (some k') P s t H k a K = oS (.int k' (k'.wrap a)) fun v => K v H := by simp [a3S, oS]
def c2F (b : Bool) (P : Program) (H : Heap) (t : TypeId) (v : Value) : Option Value := match b with
 | true => (match v with | .string s => some (.int .i64 s.size) | _ => a0p P H t v)
 | false => a0p P H t v
theorem c1F (t : TypeId) (v : Value) : a9x none P H t v = c2F (oF P t) P H t v := by
 unfold c2F
 split
 ·rename_i h
  split
  ·exact b6d _ h
  ·rfl
 ·rfl
theorem b5h (t : TypeId) (s : ByteArray) : c2F true P H t (.string s) = some (.int .i64 s.size) := rfl
def a2H (b : Bool) (P : Program) (t : TypeId) (x i : Value) : Option Value := match b, x, i with
 | true, .string s, .int k i => if 0 ≤ i ∧ i < s.size then some (.int .u8 (oG s i.toNat)) else pH P t (.string s) (.int k i)
 | _, x, i => pH P t x i
theorem a7k (t : TypeId) (x i : Value) : pH P t x i = a2H (oF P t) P t x i := by
 unfold a2H
 split
 ·rename_i h
  split
  ·rename_i h2; exact a8o _ _ _ h h2.1 h2.2
  ·rfl
 ·rfl
theorem a9X (t : TypeId) (s : ByteArray) (k : IntKind) (i : Int) (h0 : 0 ≤ i) (h1 : i < s.size) : a2H true P t (.string s) (.int k i) = some (.int .u8 (oG s i.toNat)) := by
 simp [a2H, h0, h1]
theorem OC : (∀ k n, oneCell (.int k n) = true) ∧ (∀ b, oneCell (.bool b) = true) ∧ (∀ s, oneCell (.string s) = true) ∧ (∀ a, oneCell (.pointer a) = true) ∧ (∀ a n c, oneCell (.slice a n c) = true) ∧ (∀ r, oneCell (.map r) = true) ∧ (∀ f a b, oneCell (.func f a b) = true) ∧ oneCell .nilFunc = true :=
 ⟨fun _ _ => rfl, fun _ => rfl, fun _ => rfl, fun _ => rfl, fun _ _ _ => rfl, fun _ => rfl, fun _ _ _ => rfl, rfl⟩
theorem c4H (o : Option Bool) : (o.map Value.bool).getD (.bool false) = .bool (o.getD false) := by cases o <;> rfl
theorem c5a (k : IntKind) (o : Option Int) : (o.map (Value.int k)).getD (.int k 0) = .int k (o.getD 0) := by cases o <;> rfl
theorem b9m (v : Value) (b : Bool) : pairV false v b = v := rfl
theorem b8u (v : Value) (b : Bool) : pairV true v b = .tuple #[v, .bool b] := rfl
theorem b4x (t : Tmp) : lF (.tmp t) = false := rfl
theorem a8Y (v : Value) : lF (.const v) = true := rfl
theorem b3P (s : ByteArray) : flat (.string s) = true := rfl
theorem b3B (s : ByteArray) : jB (.string s) = true := rfl
theorem a8V (s : ByteArray) : iX (.string s) = true := rfl
theorem a6a (s : ByteArray) : jE (.string s) = true := rfl
theorem b4H (k : IntKind) (n : Int) : pR (.int k n) = true := rfl
theorem b2L (b : Bool) : pR (.bool b) = true := rfl
theorem b6Q (s : ByteArray) : pR (.string s) = true := rfl
theorem qM {c b : Bool} {p q : Prop} (h1 : c = true → sC (.bool true) b p q) (h2 : c = false → sC (.bool false) b p q) : sC (.bool c) b p q := by
 cases c
 ·exact h2 rfl
 ·exact h1 rfl
theorem St.pick {H0 : Base} {os os' : List Ob} (hS : St P H0 H os) (idx : List Nat) (hn : idx.Nodup) (h : idx.map (os[·]?) = os'.map some) : St P H0 H os' := by
 have hmem : ∀ o ∈ os', o ∈ os := by
  intro o ho
  have : some o ∈ idx.map (os[·]?) := by rw [h]; exact fX ho
  obtain ⟨i, _, hi⟩ := dx.1 this
  exact dN hi
 refine ⟨hS.len, hS.old, fun o ho => hS.own o (hmem o ho), fun o ho => hS.new o (hmem o ho), ?_⟩
 have hpw := eF.1 hS.sep
 rw [eF]
 intro i j hi hj hij
 have hl : idx.length = os'.length := by simpa using congrArg List.length h
 have key : ∀ i (hi : i < os'.length), ∃ hk : idx[i]'(by omega) < os.length, os[idx[i]'(by omega)] = os'[i] := by
  intro i hi
  have h1 : (idx.map (os[·]?))[i]? = (os'.map some)[i]? := by rw [h]
  rw [eL, eL, dm (by omega), dm hi] at h1
  simp only [dK, dB] at h1
  exact dq.1 h1
 obtain ⟨h1, e1⟩ := key i hi
 obtain ⟨h2, e2⟩ := key j hj
 have hne : idx[i]'(by omega) ≠ idx[j]'(by omega) := by
  have := eF.1 hn i j (by omega) (by omega) hij
  exact this
 rcases fJ hne with hh | hh
 ·have := hpw _ _ h1 h2 hh
  rw [e1, e2] at this
  exact this
 ·have := hpw _ _ h2 h1 hh
  rw [e1, e2] at this
  intro B hb hb'
  exact this B hb' hb
theorem St.frame {H1 : Heap} {H0 : Base} {ls rest ls' : List Ob} (hS : St P H0 H (ls ++ rest)) (h1 : St P ⟨H, rP ls⟩ H1 ls') : St P H0 H1 (ls' ++ rest) := by
 have hls : St P H0 H ls := hS.sub (List.sublist_append_left ..)
 have h2 := hls.bz h1
 have hsep := eX.1 hS.sep
 have hkeep : ∀ o ∈ rest, ∀ B, kI o.v = some B → iQ H1 B = iQ H B := by
  intro o ho B hB
  have hlt := (hS.own o (gq _ ho)).lt hB
  exact h1.old B hlt fun ⟨x, hx, hxb⟩ => hsep.2.2 x hx o ho B hxb hB
 refine ⟨h2.len, h2.old, ?_, ?_, ?_⟩
 ·intro o ho
  rcases dF.1 ho with ho | ho
  ·exact h2.own o ho
  ·exact (hS.own o (gq _ ho)).ab (hkeep o ho)
 ·intro o ho B hB
  rcases dF.1 ho with ho | ho
  ·exact h2.new o ho B hB
  ·exact hS.new o (gq _ ho) B hB
 ·rw [eX]
  refine ⟨h2.sep, hsep.2.1, ?_⟩
  intro x hx y hy B hb hb'
  rcases h1.new x hx B hb with hh | ⟨z, hz, hzb⟩
  ·have := (hS.own y (gq _ hy)).lt hb'
   have hh : H.length ≤ B := hh
   omega
  ·exact hsep.2.2 z hz y hy B hzb hb'
theorem b7x (t : TypeId) (k : IntKind) (n : Int) : unV P .neg t (.int k n) = some (.int k (k.wrap (0 - n))) := rfl
theorem b3A (ops : Array Oper) (d : Option Tmp) (op : Op) (ty : TypeId) (pos : String) (af : Array Edge) (j : Nat) (b : Bool) (l : List Value) (H' : Heap) (v : Value) :
 rdW P ops (some ⟨d, op, ty, pos, af, some (j, b)⟩) (some (l, H', v)) H = uZ (yM ops j) l b (mA P ⟨d, op, ty, pos, af, some (j, b)⟩ l H fun v' _ => v' = v) True := by
 rw [← tH ops l d op ty pos af]
 unfold rdW
 split
 ·rename_i h1 h2
  cases h1; cases h2
  split
  ·rename_i h; simp [h]
  ·rename_i h; simp [h]
 ·rename_i h
  exact (h _ _ _ _ rfl rfl).elim
theorem b3D (t t2 : TypeId) (cx cy : Bool) (k : IntKind) (a b : Int) (K : Value → Prop) : kY P .and t t2 cx cy (.int k a) (.int k b) K = jX (kV P .and t t2 cx cy (.int k a) (.int k b)) K := by
 have h : (if k = k then mM .and k a b else none) = none := by split <;> rfl
 unfold kY; dsimp only
 rw [h]
theorem b6u (t t2 : TypeId) (cx cy : Bool) (k : IntKind) (a b : Int) (K : Value → Prop) : kY P .or t t2 cx cy (.int k a) (.int k b) K = jX (kV P .or t t2 cx cy (.int k a) (.int k b)) K := by
 have h : (if k = k then mM .or k a b else none) = none := by split <;> rfl
 unfold kY; dsimp only
 rw [h]
theorem b2r (t t2 : TypeId) (cx cy : Bool) (k : IntKind) (a b : Int) (K : Value → Prop) : kY P .xor t t2 cx cy (.int k a) (.int k b) K = jX (kV P .xor t t2 cx cy (.int k a) (.int k b)) K := by
 have h : (if k = k then mM .xor k a b else none) = none := by split <;> rfl
 unfold kY; dsimp only
 rw [h]
theorem a5m (t t2 : TypeId) (cx cy : Bool) (k : IntKind) (a b : Int) (K : Value → Prop) : kY P .andNot t t2 cx cy (.int k a) (.int k b) K = jX (kV P .andNot t t2 cx cy (.int k a) (.int k b)) K := by
 have h : (if k = k then mM .andNot k a b else none) = none := by split <;> rfl
 unfold kY; dsimp only
 rw [h]
theorem b2z (t t2 : TypeId) (cx cy : Bool) (k k' : IntKind) (a b : Int) (K : Value → Prop) : kY P .shl t t2 cx cy (.int k a) (.int k' b) K = jX (kV P .shl t t2 cx cy (.int k a) (.int k' b)) K := by
 have h : (if k = k' then mM .shl k a b else none) = none := by split <;> rfl
 unfold kY; dsimp only
 rw [h]
theorem b3c (t t2 : TypeId) (cx cy : Bool) (k k' : IntKind) (a b : Int) (K : Value → Prop) : kY P .shr t t2 cx cy (.int k a) (.int k' b) K = jX (kV P .shr t t2 cx cy (.int k a) (.int k' b)) K := by
 have h : (if k = k' then mM .shr k a b else none) = none := by split <;> rfl
 unfold kY; dsimp only
 rw [h]
theorem b2a (op : BinOp) (t t2 : TypeId) (cx cy : Bool) (a b : ByteArray) (K : Value → Prop) : kY P op t t2 cx cy (.string a) (.string b) K = jX (kV P op t t2 cx cy (.string a) (.string b)) K := rfl
theorem b2n (op : BinOp) (t t2 : TypeId) (cx cy : Bool) (a b : Array Value) (K : Value → Prop) : kY P op t t2 cx cy (.agg a) (.agg b) K = jX (kV P op t t2 cx cy (.agg a) (.agg b)) K := rfl
theorem b3i (op : BinOp) (t t2 : TypeId) (cx cy : Bool) (a b : Bool) (K : Value → Prop) : kY P op t t2 cx cy (.bool a) (.bool b) K = jX (kV P op t t2 cx cy (.bool a) (.bool b)) K := rfl
theorem b6y (n : Int) (h1 : -9223372036854775808 ≤ n) (h2 : n < 9223372036854775808) : IntKind.wrap .i64 n = n := by
 show (if (true && decide (n % 18446744073709551616 ≥ 9223372036854775808)) = true then n % 18446744073709551616 - 18446744073709551616 else n % 18446744073709551616) = n
 simp only [gL, decide_eq_true_eq]
 omega
theorem b8e (n : Int) (h1 : -128 ≤ n) (h2 : n < 128) : IntKind.wrap .i8 n = n := by
 show (if (true && decide (n % 256 ≥ 128)) = true then n % 256 - 256 else n % 256) = n
 simp only [gL, decide_eq_true_eq]
 omega
theorem oP (n : Int) (h1 : 0 ≤ n) (h2 : n < 18446744073709551616) : IntKind.wrap .u64 n = n := by
 show (if (false && decide (n % 18446744073709551616 ≥ 9223372036854775808)) = true then n % 18446744073709551616 - 18446744073709551616 else n % 18446744073709551616) = n
 simp only [ft]
 rw [if_neg (by simp)]
 omega
theorem b4U (n : Int) (h1 : 0 ≤ n) (h2 : n < 4294967296) : IntKind.wrap .u32 n = n := by
 show (if (false && decide (n % 4294967296 ≥ 2147483648)) = true then n % 4294967296 - 4294967296 else n % 4294967296) = n
 simp only [ft]
 rw [if_neg (by simp)]
 omega
theorem b5v (n : Int) (h1 : 0 ≤ n) (h2 : n < 65536) : IntKind.wrap .u16 n = n := by
 show (if (false && decide (n % 65536 ≥ 32768)) = true then n % 65536 - 65536 else n % 65536) = n
 simp only [ft]
 rw [if_neg (by simp)]
 omega
theorem b8Z (n : Int) (h1 : 0 ≤ n) (h2 : n < 256) : IntKind.wrap .u8 n = n := by
 show (if (false && decide (n % 256 ≥ 128)) = true then n % 256 - 256 else n % 256) = n
 simp only [ft]
 rw [if_neg (by simp)]
 omega
end
end Go.Ds
namespace Go.Ds
noncomputable section
variable {P : Program}
def zZ (P : Program) (t : TypeId) : List Field := match P.underlying t with | some (.struct fs) => fs.toList | _ => []
def eqC : Value → Value → Bool
 | .int _ a, .int _ b => a == b
 | .bool a, .bool b => a == b
 | .string a, .string b => decide (a = b)
 | _, _ => false
def okC (P : Program) (t : TypeId) (x y : Value) : Bool := match P.underlying t with
 | some (.int _) => (match x, y with | .int k _, .int k' _ => decide (k = k') | _, _ => false)
 | some .bool => (match x, y with | .bool _, .bool _ => true | _, _ => false)
 | some .string => (match x, y with | .string _, .string _ => true | _, _ => false)
 | _ => false
theorem eq1 {t : TypeId} {x y : Value} (d : Nat) (h : okC P t x y = true) : iL P (Op.equalIn (d + 1) t x y) = some (eqC x y) := by
 unfold okC at h
 split at h
 ·rename_i k0 hu
  split at h
  ·rename_i k a k' b
   have hk : k = k' := by simpa using h
   subst hk
   rw [Op.equalIn, iK, jW hu, cV]
   simp only [if_true]
   rfl
  ·cases h
 ·rename_i hu
  split at h
  ·rw [Op.equalIn, iK, jW hu, cV]; rfl
  ·cases h
 ·rename_i hu
  split at h
  ·rename_i a b
   rw [Op.equalIn, iK, jW hu, cV]
   show some (a == b) = some (decide (a = b))
   rw [a1B]
   congr 1
   simp [eq_comm]
  ·cases h
 ·cases h
theorem c0u {t : TypeId} {x y v : Value} {cs : Array Value} {off : Nat} (h : okC P t x y = true) (hc : cs[off]? = some v) : iL P (part t cs off) = some v := by
 have ha : iL P (isAgg t) = some false := by
  unfold isAgg
  unfold okC at h
  split at h
  ·rename_i hu; rw [iK, jW hu, cV]; rfl
  ·rename_i hu; rw [iK, jW hu, cV]; rfl
  ·rename_i hu; rw [iK, jW hu, cV]; rfl
  ·cases h
 unfold part
 rw [iK, ha, cV]
 simp only [dW, if_false, hc]
 rfl
theorem a1F {t : TypeId} {xs ys : List Value} (d : Nat) (hu : P.underlying t = some (.struct (zZ P t).toArray)) (hst : P.stoodInHeld t = false)
 (hf : ((zZ P t).map fun f => (f.name != "_", f.offset)) = (List.range xs.length).map fun j => (true, j)) (hy : ys.length = xs.length)
 (hok : ((zZ P t).all fun f => okC P f.type (xs.getD f.offset undef) (ys.getD f.offset undef)) = true) :
 iL P (Op.equalIn (d + 2) t (.agg xs.toArray) (.agg ys.toArray)) = some ((List.range xs.length).all fun j => eqC (xs.getD j undef) (ys.getD j undef)) := by
 rw [dp] at hok
 have hmem : ∀ f ∈ zZ P t, (f.name != "_") = true ∧ f.offset < xs.length := fun f hf' => by
  have : (f.name != "_", f.offset) ∈ (List.range xs.length).map fun j => (true, j) := by rw [← hf]; exact fX hf'
  obtain ⟨j, hj, he⟩ := dx.1 this
  simp only [gJ] at he
  exact ⟨he.1.symm, by rw [← he.2]; exact dw.1 hj⟩
 rw [b4b hu hst (fun f => eqC (xs.getD f.offset undef) (ys.getD f.offset undef)) ?_]
 ·congr 1
  have h1 : (zZ P t).all (fun f => eqC (xs.getD f.offset undef) (ys.getD f.offset undef)) = ((zZ P t).map fun f => (f.name != "_", f.offset)).all fun p => eqC (xs.getD p.2 undef) (ys.getD p.2 undef) := by
   rw [List.all_map]; rfl
  rw [h1, hf, List.all_map]
  rfl
 ·intro f hf'
  obtain ⟨h1, h2⟩ := hmem f hf'
  refine ⟨by simpa using h1, ?_⟩
  have hx : xs.toArray[f.offset]? = some (xs.getD f.offset undef) := by
   rw [fc, cY, dm h2]; rfl
  have hy' : ys.toArray[f.offset]? = some (ys.getD f.offset undef) := by
   rw [fc, cY, dm (by omega)]; rfl
  rw [iK, c0u (hok f hf') hx, cV, iK, c0u (hok f hf') hy', cV]
  exact eq1 d (hok f hf')
theorem yY {t t2 : TypeId} {cx cy : Bool} {xs ys : List Value} (hu : P.underlying t = some (.struct (zZ P t).toArray)) (hst : P.stoodInHeld t = false) (hg : P.eqGuardType P.depth t = false)
 (hf : ((zZ P t).map fun f => (f.name != "_", f.offset)) = (List.range xs.length).map fun j => (true, j)) (hy : ys.length = xs.length)
 (hok : ((zZ P t).all fun f => okC P f.type (xs.getD f.offset undef) (ys.getD f.offset undef)) = true) (hx : xs.all iX = true) (hys : ys.all iX = true) :
 kV P .eql t t2 cx cy (.agg xs.toArray) (.agg ys.toArray) = some (.bool ((List.range xs.length).all fun j => eqC (xs.getD j undef) (ys.getD j undef))) ∧
 kV P .neq t t2 cx cy (.agg xs.toArray) (.agg ys.toArray) = some (.bool (!((List.range xs.length).all fun j => eqC (xs.getD j undef) (ys.getD j undef)))) :=
 ⟨b6x _ hg hx hys (a1F 9998 hu hst hf hy hok), b4L _ hg hx hys (a1F 9998 hu hst hf hy hok)⟩
theorem c0P {t : TypeId} {k : IntKind} (hu : P.underlying t = some (.struct (zZ P t).toArray)) (hst : P.stoodInHeld t = false)
 (hf : ((zZ P t).map fun f => (f.name != "_", f.offset)) = (List.range 2).map fun j => (true, j))
 (hok : ∀ a b c d : Int, ((zZ P t).all fun f => okC P f.type ([Value.int k a, .int k b].getD f.offset undef) ([Value.int k c, .int k d].getD f.offset undef)) = true) (a b : Int × Int) :
 iL P (Op.equal t (.agg #[.int k a.1, .int k a.2]) (.agg #[.int k b.1, .int k b.2])) = some (decide (b = a)) := by
 have hmd : Op.maxDepth = 9998 + 2 := by decide
 unfold Op.equal
 rw [hmd, a1F (xs := [.int k a.1, .int k a.2]) (ys := [.int k b.1, .int k b.2]) 9998 hu hst hf rfl (hok _ _ _ _)]
 congr 1
 show ((a.1 == b.1) && ((a.2 == b.2) && true)) = _
 rw [ez]
 simp only [fo, cU, beq_iff_eq, decide_eq_true_eq, Prod.ext_iff]
 constructor
 ·rintro ⟨h1, h2⟩; exact ⟨h1.symm, h2.symm⟩
 ·rintro ⟨h1, h2⟩; exact ⟨h1.symm, h2.symm⟩
theorem c2r {k : IntKind} (a : Int × Int) : Instr.sameBits 10000 (.agg #[.int k a.1, .int k a.2]) (.agg #[.int k a.1, .int k a.2]) = true := by
 show ((2 : Nat) == 2 && ([(Value.int k a.1, Value.int k a.1), (Value.int k a.2, Value.int k a.2)]).all fun (x, y) => Instr.sameBits 9999 x y) = true
 have h : ∀ n, Instr.sameBits 9999 (.int k n) (.int k n) = true := fun n => by
  show (k == k && n == n) = true
  cases k <;> simp <;> rfl
 simp [h]
section
variable {H : Heap} {α : Type} {n : Nat} {cel : α → List Value} {v : Value} {xs : List α}
theorem Sl.aV (h : Sl n cel H v xs) (o : Oper) (l : List Value) (H' : Heap) (k : IntKind) (a : Int) (K : Value → Heap → Prop) (h0 : 0 < xs.length) (h1 : 0 ≤ a) (h2 : a ≤ xs.length) :
 oY P o l H' (some n) v none (some (.int k a)) K = oS (qN v n 0 a.toNat) fun v => K v H' := by
 obtain ⟨m, rfl⟩ : ∃ m, n = m + 1 := ⟨n - 1, by have := h.pos; omega⟩
 exact h.rd.aV (iR h.hc xs) o l H' k a K h0 h1 h2
theorem Sl.aU (h : Sl n cel H v xs) (o : Oper) (l : List Value) (H' : Heap) (k : IntKind) (a : Int) (K : Value → Heap → Prop) (h0 : 0 < xs.length) (h1 : 0 ≤ a) (h2 : a ≤ xs.length) :
 oY P o l H' (some n) v (some (.int k a)) none K = oS (qN v n a.toNat (xs.length - a).toNat) fun v => K v H' := by
 obtain ⟨m, rfl⟩ : ∃ m, n = m + 1 := ⟨n - 1, by have := h.pos; omega⟩
 rw [h.rd.aU (iR h.hc xs) o l H' k a K h0 h1 h2]
 congr 2
 omega
theorem Sl.sub (h : Sl n cel H v xs) (lo k : Nat) (hk : lo + k ≤ xs.length) (h0 : 0 < xs.length) : Sl n cel H (qN v n lo k) ((xs.drop lo).take k) := by
 refine ⟨?_, h.hc, h.pos⟩
 have hne : xs.flatMap cel ≠ [] := fun e => by
  have := iR h.hc xs
  rw [e, eK] at this
  have hp := ig h0 h.pos
  omega
 have := h.rd.sub lo k (by rw [iR h.hc, ← fi]; exact dH _ hk) hne
 rw [sK h.hc, a1y h.hc] at this
 exact this
theorem Sl.cA (h : Sl n cel H v xs) (k : Nat) (hk : k ≤ xs.length) (h0 : 0 < xs.length) : Sl n cel H (qN v n 0 k) (xs.take k) := by
 simpa using h.sub 0 k (by omega) h0
theorem Sl.cB (h : Sl n cel H v xs) (lo : Nat) (hk : lo ≤ xs.length) (h0 : 0 < xs.length) : Sl n cel H (qN v n lo (xs.length - lo)) (xs.drop lo) := by
 have := h.sub lo (xs.length - lo) (by omega) h0
 rwa [List.take_of_length_le (by simp)] at this
end
def a9s (P : Program) (ts : Array TypeId) (ty : TypeId) (cx cy : Bool) (x y : Value) : Option Value := (kO P ⟨none, .call { callee := .builtin .max, args := #[oR cx 0 x, oR cy 1 y], argTypes := ts }, ty, "", #[], none⟩ [x, y] .nil).map (·.1)
theorem b9t (d : Option Tmp) (ty : TypeId) (pos : String) (af : Array Edge) (g : Option (Nat × Bool)) (ts : Array TypeId) (x y : Operand) (l : List Value) (H : Heap) (K : Value → Heap → Prop) :
 mA P ⟨d, .call { callee := .builtin .max, args := #[x, y], argTypes := ts }, ty, pos, af, g⟩ l H K = jJ x l fun x' => jJ y l fun y' => jX (a9s P ts ty (lF x) (lF y) x' y') fun v => K v H := by
 have h : opD P ⟨d, .call { callee := .builtin .max, args := #[x, y], argTypes := ts }, ty, pos, af, g⟩ l H = (a9s P ts ty (lF x) (lF y) (ev l x) (ev l y)).map fun v => (v, H) :=
  mZ (P := P) ⟨d, .call { callee := .builtin .max, args := #[x, y], argTypes := ts }, ty, pos, af, g⟩ ⟨none, .call { callee := .builtin .max, args := #[oR (lF x) 0 (ev l x), oR (lF y) 1 (ev l y)], argTypes := ts }, ty, "", #[], none⟩ l [ev l x, ev l y] H
   (by cases x <;> cases y <;> rfl) (by cases x <;> cases y <;> kernel_rfl)
 have h2 : kD ((a9s P ts ty (lF x) (lF y) (ev l x) (ev l y)).map fun v => (v, H)) K = jX (a9s P ts ty (lF x) (lF y) (ev l x) (ev l y)) fun v => K v H := by cases a9s P ts ty (lF x) (lF y) (ev l x) (ev l y) <;> rfl
 simp only [mA, h, jJ, Op.operands, Call.operands, h2]
 simp [and_assoc]
theorem b4R (ts : Array TypeId) (ty : TypeId) (cx cy : Bool) (a b : Int) : a9s P ts ty cx cy (.int .i64 a) (.int .i64 b) = some (.int .i64 (max a b)) := by
 have h : a9s P ts ty cx cy (.int .i64 a) (.int .i64 b) = some (.int .i64 (if b > a then b else a)) := by cases cx <;> cases cy <;> kernel_rfl
 rw [h]
 congr 2
 split <;> omega
def a8H (P : Program) (ts : Array TypeId) (ty : TypeId) (cx cy : Bool) (x y : Value) : Option Value := (kO P ⟨none, .call { callee := .builtin .min, args := #[oR cx 0 x, oR cy 1 y], argTypes := ts }, ty, "", #[], none⟩ [x, y] .nil).map (·.1)
theorem b8N (d : Option Tmp) (ty : TypeId) (pos : String) (af : Array Edge) (g : Option (Nat × Bool)) (ts : Array TypeId) (x y : Operand) (l : List Value) (H : Heap) (K : Value → Heap → Prop) :
 mA P ⟨d, .call { callee := .builtin .min, args := #[x, y], argTypes := ts }, ty, pos, af, g⟩ l H K = jJ x l fun x' => jJ y l fun y' => jX (a8H P ts ty (lF x) (lF y) x' y') fun v => K v H := by
 have h : opD P ⟨d, .call { callee := .builtin .min, args := #[x, y], argTypes := ts }, ty, pos, af, g⟩ l H = (a8H P ts ty (lF x) (lF y) (ev l x) (ev l y)).map fun v => (v, H) :=
  mZ (P := P) ⟨d, .call { callee := .builtin .min, args := #[x, y], argTypes := ts }, ty, pos, af, g⟩ ⟨none, .call { callee := .builtin .min, args := #[oR (lF x) 0 (ev l x), oR (lF y) 1 (ev l y)], argTypes := ts }, ty, "", #[], none⟩ l [ev l x, ev l y] H
   (by cases x <;> cases y <;> rfl) (by cases x <;> cases y <;> kernel_rfl)
 have h2 : kD ((a8H P ts ty (lF x) (lF y) (ev l x) (ev l y)).map fun v => (v, H)) K = jX (a8H P ts ty (lF x) (lF y) (ev l x) (ev l y)) fun v => K v H := by cases a8H P ts ty (lF x) (lF y) (ev l x) (ev l y) <;> rfl
 simp only [mA, h, jJ, Op.operands, Call.operands, h2]
 simp [and_assoc]
theorem b5d (ts : Array TypeId) (ty : TypeId) (cx cy : Bool) (a b : Int) : a8H P ts ty cx cy (.int .i64 a) (.int .i64 b) = some (.int .i64 (min a b)) := by
 have h : a8H P ts ty cx cy (.int .i64 a) (.int .i64 b) = some (.int .i64 (if b < a then b else a)) := by cases cx <;> cases cy <;> kernel_rfl
 rw [h]
 congr 2
 split <;> omega
section
variable {H : Heap}
def Var (H : Heap) (A n : Nat) (cs : List Value) : Prop := n = cs.length ∧ ∃ ty rw lo ver, iQ H A = some (.cells cs ty rw lo ver) ∧ lo ≤ cs.length
theorem Var.ab {H' : Heap} {A n : Nat} {cs : List Value} (h : Var H A n cs) (hk : ∀ B, B < H.length → iQ H' B = iQ H B) : Var H' A n cs := by
 obtain ⟨h1, ty, rw, lo, ver, h2, h3⟩ := h
 exact ⟨h1, ty, rw, lo, ver, by rw [hk A (jK h2), h2], h3⟩
theorem Var.ld {A n : Nat} {cs : List Value} (h : Var H A n cs) (s : Option Nat) (off : Nat) : pO (some false) s H (ptr A off n) = cs[off]? := by
 obtain ⟨rfl, ty, rw, lo, ver, h1, h2⟩ := h
 simp only [pO, jC, h1]
 by_cases h : off < cs.length
 ·rw [if_pos (by simp; omega)]
  simp only [cV]
  rw [dQ (by omega), dE]
  simp
 ·rw [if_neg (by simp; omega), ef (by omega)]
  rfl
theorem Var.ae {A n : Nat} {cs : List Value} (h : Var H A n cs) (m off : Nat) : pO (some true) (some m) H (ptr A off n) = if off + m ≤ cs.length then some (.agg ((cs.drop off).take m).toArray) else none := by
 obtain ⟨rfl, ty, rw, lo, ver, h1, h2⟩ := h
 simp only [pO, jC, h1, cV]
 by_cases h : off + m ≤ cs.length
 ·rw [if_pos (by simp; omega), if_pos h]
  rfl
 ·rw [if_neg (by simp; omega), if_neg h]
  rfl
theorem St.var {P : Program} {H0 : Base} {os : List Ob} (hS : St P H0 H os) (i : Nat) {A n : Nat} {cs : List Value} (ho : os[i]? = some ⟨ptr A 0 n, 0, cs⟩) : Var H A n cs := by
 obtain ⟨h1, ty, lo, ver, h2, h3⟩ := hS.cell i ho
 exact ⟨h1, ty, true, lo, ver, h2, h3⟩
theorem St.va {H0 : Heap} {os : List Ob} (hS : St P H0 H os) {A n : Nat} {cs : List Value} (h : Var H0 A n cs) : Var H A n cs := h.ab hS.ab
end
theorem tD {P : Program} (t t2 : TypeId) (cx cy : Bool) (u x : UInt8) : kV P .add t t2 cx cy (.string ⟨#[u]⟩) (.string ⟨#[x]⟩) = some (.string ⟨#[u, x]⟩) := by
 rw [a6g _ _ _ _ _ _ (by show 1 + 1 < 9223372036854775808; decide)]
 rfl
theorem vQ {P : Program} {H : Heap} {s t : TypeId} {v : Value} {n : Int} (h : RdAt H v 1 [.int .u8 n]) (hs : lB P s = true) (ht : oF P t = true) (hbt : lB P t = false) (h0 : 0 ≤ n) (h1 : n < 256) (K : Value → Heap → Prop) :
 tU P s t H v K = K (.string ⟨#[UInt8.ofNat n.toNat]⟩) H := by
 obtain ⟨m, rfl⟩ : ∃ m : Nat, n = Int.ofNat m := ⟨n.toNat, by simp [fH h0]⟩
 have hm : m < 256 := by have : (m : Int) < 256 := h1; omega
 rcases h with ⟨_, h⟩ | ⟨A, i, e, row, ty, rw, lo, ver, k, g1, g2, g3, g4, g5, g6, rfl⟩
 ·cases h
 have hk : k = 1 := by simp at g6; omega
 subst hk
 have hc : jC H A i e 1 = some [.int .u8 (Int.ofNat m)] := by
  simp only [jC, g1]
  rw [if_pos (by simp at g4 ⊢; omega)]
  exact congrArg some g5
 have hb : nG [.int .u8 (Int.ofNat m)] = some ⟨#[UInt8.ofNat m]⟩ := by simp [nG, a2d, a1g, hm]
 have hd : opD P ⟨none, .convert s t (.const (.slice (some ⟨A, i, some e⟩) 1 1)), t, "", #[], none⟩ [] H = some (.string ⟨#[UInt8.ofNat m]⟩, H) := by
  have hf : flat (.slice (some ⟨A, i, some e⟩) 1 1) = false := rfl
  simp only [opD, ev, hf, hs, ht, hc, hb, ft, dW, if_false, Bool.and_self, if_true, cV, dK]
 unfold tU
 rw [hd]
 apply propext
 constructor
 ·rintro ⟨v, H1, h2, h3⟩
  injection (cT h2) with e1 e2
  subst e1 e2
  exact h3
 ·intro h3
  exact ⟨_, _, rfl, h3⟩
theorem a4Q {P : Program} {t : TypeId} {n : Nat} {elem : TypeId} {size : Nat} (ha : P.underlying t = some (.array n elem)) (hs : iF P elem = some size) (A i e : Nat) (k : IntKind) (j : Int) (h0 : 0 ≤ j) (h1 : j < n) :
 xD (iT P t) P t (ptr A i e) (.int k j) = some (ptr A (i + j.toNat * size) e) := by
 have hn : iT P t = none := by simp [iT, iJ, ha]
 rw [hn]
 simp only [xD, a2y, ha, ptr, hs, cV]
 rw [if_pos (by simp [h0, h1])]
end
end Go.Ds
namespace Go.Ds
section
variable {P : Program}
def c1R (inv : List Nat) (e : Edge) : Edge := { e with on := inv.getD e.on 0 }
def xR (inv : List Nat) (o : Oper) : Oper := { o with after := o.after.map (c1R inv), guard := o.guard.map fun g => (inv.getD g.1 0, g.2) }
def kE (π inv : List Nat) (ops : Array Oper) : Array Oper := (π.map fun i => xR inv (ops.getD i default)).toArray
def b0l (π inv : List Nat) (ops : Array Oper) : Bool :=
 decide (π.length = ops.size) && decide (inv.length = ops.size) && (List.range ops.size).all (fun i => decide (π.getD i 0 < ops.size) && decide (inv.getD i 0 < ops.size) && decide (inv.getD (π.getD i 0) 0 = i) && decide (π.getD (inv.getD i 0) 0 = i)) &&
 ops.toList.all fun o => o.after.toList.all (fun e => decide (e.on < ops.size)) && (match o.guard with | some g => decide (g.1 < ops.size) | none => true)
structure Perm (π inv : List Nat) (ops : Array Oper) : Prop where
 len : π.length = ops.size
 pi : ∀ i, i < ops.size → π.getD i 0 < ops.size
 iv : ∀ i, i < ops.size → inv.getD i 0 < ops.size
 ip : ∀ i, i < ops.size → inv.getD (π.getD i 0) 0 = i
 pv : ∀ i, i < ops.size → π.getD (inv.getD i 0) 0 = i
 edge : ∀ (i : Nat) (o : Oper), ops[i]? = some o → ∀ e ∈ o.after, e.on < ops.size
 guard : ∀ (i : Nat) (o : Oper) (g : Nat × Bool), ops[i]? = some o → o.guard = some g → g.1 < ops.size
theorem b7H {π inv : List Nat} {ops : Array Oper} (h : b0l π inv ops = true) : Perm π inv ops := by
 unfold b0l at h
 simp only [cU, decide_eq_true_eq, dp, dw] at h
 obtain ⟨⟨⟨h1, h2⟩, h3⟩, h4⟩ := h
 refine ⟨h1, fun i hi => (h3 i hi).1.1.1, fun i hi => (h3 i hi).1.1.2, fun i hi => (h3 i hi).1.2, fun i hi => (h3 i hi).2, fun i o ho e he => ?_, fun i o g ho hg => ?_⟩
 ·exact (h4 o (dN (i := i) (by simpa using ho))).1 e (by simpa using he)
 ·have := (h4 o (dN (i := i) (by simpa using ho))).2
  rw [hg] at this
  simpa using this
variable {π inv : List Nat} {ops : Array Oper}
theorem a6k (p : Nat) : (kE π inv ops)[p]? = (π[p]?).map fun i => xR inv (ops.getD i default) := by
 simp [kE]
theorem qW (D : Perm π inv ops) {p i : Nat} {o : Oper} (hp : p < ops.size) (hi : π.getD p 0 = i) (ho : ops[i]? = some o) : (kE π inv ops)[p]? = some (xR inv o) := by
 rw [a6k]
 have h1 : π[p]? = some i := by
  rw [cY] at hi
  rw [dm (by rw [D.len]; exact hp)] at hi ⊢
  simpa using hi
 rw [h1]
 simp only [dK]
 rw [dZ, ho]
 rfl
theorem qA (D : Perm π inv ops) : (kE π inv ops).size = ops.size := by simp [kE, D.len]
theorem a5B (D : Perm π inv ops) (tmps : Array Value) {j : Nat} (hj : j < ops.size) : yielded (kE π inv ops) tmps (inv.getD j 0) = yielded ops tmps j := by
 have ho : ops[j]? = some ops[j] := dc.2 ⟨hj, rfl⟩
 unfold yielded
 rw [qW D (D.iv j hj) (D.pv j hj) ho, ho]
 rfl
theorem a6Q (D : Perm π inv ops) (tmps : Array Value) {i : Nat} {o : Oper} (ho : ops[i]? = some o) : Region.wanted (xR inv o) (yielded (kE π inv ops) tmps) = Region.wanted o (yielded ops tmps) := by
 unfold Region.wanted
 have e : (xR inv o).guard = o.guard.map fun g => (inv.getD g.1 0, g.2) := rfl
 rw [e]
 cases hg : o.guard with
 | none => rfl
 | some g =>
   simp only [dK]
   rw [a5B D tmps (D.guard i o g ho hg)]
theorem b8T (ro : Option Nat) (ρ : Operand → Value) (o : Oper) : (xR inv o).semAt ro ρ = o.semAt ro ρ := by
 obtain ⟨dst, op, type, pos, after, guard⟩ := o
 rfl
theorem b1N (w : World) (ρ : Operand → Value) (o : Oper) : (xR inv o).about P w ρ = o.about P w ρ := by
 obtain ⟨dst, op, type, pos, after, guard⟩ := o
 rfl
theorem b6W (F : Fence) (n : Nat) (o : Oper) (a : Act) (next : Act → World → Prop) (Q : Exit → Act → World → Prop) (r : Result Next) : (xR inv o).uponIn F n P a next Q r = o.uponIn F n P a next Q r := by
 obtain ⟨dst, op, type, pos, after, guard⟩ := o
 cases r with
 | ok x w => cases x <;> rfl
 | halt x w => cases x <;> rfl
theorem b1P (D : Perm π inv ops) (F : Fence) (n : Nat) (Q : Exit → Act → World → Prop) {i : Nat} (hi : i < ops.size) (K : Act → World → Prop) (a : Act) (w : World) :
 wpOpIn F n P (kE π inv ops) Q (inv.getD i 0) K a w = wpOpIn F n P ops Q i K a w := by
 have ho : ops[i]? = some ops[i] := dc.2 ⟨hi, rfl⟩
 unfold wpOpIn
 rw [qW D (D.iv i hi) (D.pv i hi) ho, ho]
 simp only [a6Q D a.tmps ho, Oper.wpIn, b1N, b6W, b8T]
 rfl
def c1f (inv : List Nat) (n : Nat) (listed listed' : Array Bool) : Prop := listed.size = n ∧ listed'.size = n ∧ ∀ i, i < n → listed.getD i false = listed'.getD (inv.getD i 0) false
theorem wK (D : Perm π inv ops) {listed listed' : Array Bool} (hc : c1f inv ops.size listed listed') {i : Nat} (hi : i < ops.size) :
 i ∈ Region.ready .any ops listed ↔ inv.getD i 0 ∈ Region.ready .any (kE π inv ops) listed' := by
 have ho : ops[i]? = some ops[i] := dc.2 ⟨hi, rfl⟩
 have ho' := qW D (D.iv i hi) (D.pv i hi) ho
 have hsz := qA D
 obtain ⟨c1, c2, c3⟩ := hc
 constructor
 ·intro h
  obtain ⟨o, h1, h2, h3⟩ := pE c1 h
  rw [ho] at h1
  obtain rfl := cT h1
  refine a0e (by rw [hsz]; exact c2) ho' (by rw [← c3 i hi]; exact h2) ?_
  intro e he hb
  have he' : e ∈ (ops[i]).after.map (c1R inv) := he
  obtain ⟨e0, he0, rfl⟩ := Array.mem_map.1 he'
  have := h3 e0 he0 hb
  show listed'.getD (inv.getD e0.on 0) false = true
  rw [← c3 _ (D.edge i _ ho e0 he0)]
  exact this
 ·intro h
  obtain ⟨o, h1, h2, h3⟩ := pE (by rw [hsz]; exact c2) h
  rw [ho'] at h1
  obtain rfl := cT h1
  refine a0e c1 ho (by rw [c3 i hi]; exact h2) ?_
  intro e he hb
  have := h3 (c1R inv e) (Array.mem_map.2 ⟨e, he, rfl⟩) hb
  rw [c3 _ (D.edge i _ ho e he)]
  exact this
theorem b6P (D : Perm π inv ops) (F : Fence) (k : Nat) {Q : Exit → Act → World → Prop} : ∀ (fuel : Nat) (listed listed' : Array Bool) (a : Act) (w : World), c1f inv ops.size listed listed' →
 wpAnyIn F k P .any (kE π inv ops) Q fuel listed' a w → wpAnyIn F k P .any ops Q fuel listed a w := by
 have hsz := qA D
 have nil1 : ∀ {listed listed' : Array Bool}, c1f inv ops.size listed listed' → (Region.ready .any ops listed = [] ↔ Region.ready .any (kE π inv ops) listed' = []) := by
  intro listed listed' hc
  constructor
  ·intro h
   cases hr : Region.ready .any (kE π inv ops) listed' with
   | nil => rfl
   | cons p r =>
     exfalso
     have hp : p ∈ Region.ready .any (kE π inv ops) listed' := by rw [hr]; exact dJ ..
     obtain ⟨o, h1, _, _⟩ := pE (by rw [hsz]; exact hc.2.1) hp
     have hpn : p < ops.size := by rw [← hsz]; exact (dc.1 h1).1
     have := (wK D hc (D.pi p hpn)).2 (by rw [D.ip p hpn]; exact hp)
     rw [h] at this
     cases this
  ·intro h
   cases hr : Region.ready .any ops listed with
   | nil => rfl
   | cons i r =>
     exfalso
     have hi : i ∈ Region.ready .any ops listed := by rw [hr]; exact dJ ..
     obtain ⟨o, h1, _, _⟩ := pE hc.1 hi
     have := (wK D hc (dc.1 h1).1).1 hi
     rw [h] at this
     cases this
 intro fuel
 induction fuel with
 | zero =>
   intro listed listed' a w hc h
   exact ⟨(nil1 hc).2 h.1, h.2⟩
 | succ fuel ih =>
   intro listed listed' a w hc h
   refine ⟨fun hn => h.1 ((nil1 hc).1 hn), fun i hi => ?_⟩
   obtain ⟨o, h1, _, _⟩ := pE hc.1 hi
   have hin := (dc.1 h1).1
   have h2 := h.2 _ ((wK D hc hin).1 hi)
   rw [b1P D F k Q hin] at h2
   refine wpOpIn_mono (fun a' w' h3 => ih _ _ a' w' ⟨by simpa using hc.1, by simpa using hc.2.1, fun j hj => ?_⟩ h3) h2
   have e1 := tF (listed := listed) (i := i) (by rw [hc.1]; exact hin) j
   have e2 := tF (listed := listed') (i := inv.getD i 0) (by rw [hc.2.1]; exact D.iv i hin) (inv.getD j 0)
   have e3 : (inv.getD j 0 = inv.getD i 0) ↔ j = i := ⟨fun h => by rw [← D.pv j hj, h, D.pv i hin], fun h => by rw [h]⟩
   rw [ez, e1, e2, e3, hc.2.2 j hj]
end
section
variable {P : Program} {H : Heap} {π inv : List Nat} {ops : Array Oper}
theorem Sim.cC (kC : P.follows .mixedOrders = true) {id : Nat} (Dp : Perm π inv ops) {fl : Fl} (D : Draw P fl (kE π inv ops)) {T : Nat → List Value × Heap} {val : Nat → Value} (X : Text P (kE π inv ops) T val)
 (hread : ∀ i m o, (i, m) ∈ mI fl (kE π inv ops) → (kE π inv ops)[i]? = some o → Region.wanted o (iU (kE π inv ops) (T i).1) = true → ∃ H2, opD P o (T i).1 (T m).2 = some (val i, H2)) :
 Sim P (.region id ops true) (T 0).1 (T 0).2 .normal (T ops.size).1 (T ops.size).2 := by
 intro ro k B ρ w a hr hE hl hM hB
 have hsz := qA Dp
 have := a4k D X hread ro k B hr hE hM
 rw [hsz] at this
 exact wpIn_region_any kC (b6P Dp (fe ro) k ops.size _ _ a _ ⟨by simp, by simp, fun i hi => by
  have := Dp.iv i hi
  simp only [dZ, Array.getElem?_replicate, hi, this, if_true]⟩ this)
theorem a2Z (D : Perm π inv ops) (l : List Value) {j : Nat} (hj : j < ops.size) : iU (kE π inv ops) l (inv.getD j 0) = iU ops l j := by
 have ho : ops[j]? = some ops[j] := dc.2 ⟨hj, rfl⟩
 unfold iU
 rw [qW D (D.iv j hj) (D.pv j hj) ho, ho]
 rfl
theorem yS (D : Perm π inv ops) (l : List Value) {i : Nat} {o : Oper} (ho : ops[i]? = some o) : Region.wanted (xR inv o) (iU (kE π inv ops) l) = Region.wanted o (iU ops l) := by
 unfold Region.wanted
 have e : (xR inv o).guard = o.guard.map fun g => (inv.getD g.1 0, g.2) := rfl
 rw [e]
 cases hg : o.guard with
 | none => rfl
 | some g =>
   simp only [dK]
   rw [a2Z D l (D.guard i o g ho hg)]
theorem b0K (o : Oper) (l : List Value) (K : Value → Heap → Prop) : mA P (xR inv o) l H K = mA P o l H K := by
 obtain ⟨dst, op, type, pos, after, guard⟩ := o
 rfl
theorem a4l (D : Perm π inv ops) : ∀ (os : List Oper) (tr : List (List Value × Heap × Value)) (l : List Value) (H : Heap) (K : List (List Value × Heap × Value) → List Value → Heap → Prop), (∀ o ∈ os, ∃ i : Nat, ops[i]? = some o) →
 mK P (kE π inv ops) (os.map (xR inv)) tr l H K = mK P ops os tr l H K
 | [], _, _, _, _, _ => rfl
 | o :: os, tr, l, H, K, h => by
   obtain ⟨i, ho⟩ := h o (by simp)
   have ih := fun tr l H => a4l D os tr l H K fun o ho => h o (by simp [ho])
   rw [eu, mK, mK, yS D l ho]
   have e : (xR inv o).dst = o.dst := rfl
   simp only [b0K, e, ih]
def c2E (o : Option Oper) (os : List Oper) : List Oper := match o with | some o => o :: os | none => os
def sel (os : List Oper) : List Nat → List Oper
 | [] => []
 | i :: π => c2E os[i]? (sel os π)
theorem b8F (os : List Oper) : sel os [] = [] := rfl
theorem a6j (os : List Oper) (i : Nat) (π : List Nat) : sel os (i :: π) = c2E os[i]? (sel os π) := rfl
theorem a3x (o : Oper) (os : List Oper) : c2E (some o) os = o :: os := rfl
theorem a8g (os : List Oper) : ∀ (π : List Nat), (∀ i ∈ π, i < os.length) → sel os π = π.map fun i => os.toArray.getD i default
 | [], _ => rfl
 | i :: π, h => by
   have hi := h i (by simp)
   rw [a6j, a8g os π fun j hj => h j (by simp [hj]), dm hi, a3x, eu]
   congr 1
   simp [dZ, hi]
def zJ (P : Program) (os : List Oper) (tr : List (List Value × Heap × Value)) (H1 : Heap) (π : List Nat) : List (Nat × Nat) → Prop
 | [] => True
 | (p, m) :: r => rdW P os.toArray (os[π.getD p 0]?) tr[p]? (trH tr[m]? H1) ∧ zJ P os tr H1 π r
theorem a8w (os : List Oper) (tr) (H1 : Heap) (π : List Nat) : zJ P os tr H1 π [] = True := rfl
theorem a6u (os : List Oper) (tr) (H1 : Heap) (π : List Nat) (p m : Nat) (r : List (Nat × Nat)) : zJ P os tr H1 π ((p, m) :: r) = (rdW P os.toArray (os[π.getD p 0]?) tr[p]? (trH tr[m]? H1) ∧ zJ P os tr H1 π r) := rfl
theorem a1P {os : List Oper} {tr} {H1 : Heap} {π : List Nat} : ∀ {tab : List (Nat × Nat)}, zJ P os tr H1 π tab → ∀ x ∈ tab, rdW P os.toArray (os[π.getD x.1 0]?) tr[x.1]? (trH tr[x.2]? H1)
 | [], _, x, hx => by cases hx
 | (i, m) :: r, h, x, hx => by
   rcases dU.1 hx with rfl | hx
   ·exact h.1
   ·exact a1P h.2 x hx
theorem Wp.cg (kC : P.follows .mixedOrders = true) {id : Nat} {os : List Oper} {l : List Value} {Q : nV} (π inv : List Nat) (fl : Fl) (tab : List (Nat × Nat)) (hp : b0l π inv os.toArray = true)
 (htab : a1r P fl (kE π inv os.toArray) = some tab) (hn : uS (kE π inv os.toArray) tab = true)
 (h : mK P os.toArray (sel os π) [] l H fun tr l1 H1 => Q .normal l1 H1 ∧ zJ P os tr H1 π tab) : Wp P (.region id os.toArray true) l H Q := by
 have Dp := b7H hp
 obtain ⟨D, htb⟩ := a3h htab
 have hsz := qA Dp
 have hmem : ∀ i ∈ π, i < os.length := fun i hi => by
  obtain ⟨p, hpl, hpe⟩ := dO.1 hi
  have := Dp.pi p (by rw [← Dp.len]; exact hpl)
  rw [cY, dm hpl, eZ, hpe] at this
  simpa using this
 have hsel : (sel os π).map (xR inv) = (kE π inv os.toArray).toList := by
  rw [a8g os π hmem]
  simp [kE]
 rw [← a4l Dp (sel os π) [] l H _ (fun o ho => by
  rw [a8g os π hmem, dx] at ho
  obtain ⟨i, hi, rfl⟩ := ho
  have := hmem i hi
  exact ⟨i, by simp [dZ, this]⟩), hsel] at h
 obtain ⟨T, val, l', H', ext, h0, h1, h2, h3, h4, h5, h6⟩ := vB (kE π inv os.toArray).toList 0 rfl [] l H h
 have hlen : (kE π inv os.toArray).toList.length = os.toArray.size := by rw [fw, hsz]
 rw [hlen] at h1 h2 h3 h4
 have := Sim.cC kC (id := id) Dp D (T := T) (val := val) ⟨fun k hk => by rw [hsz] at hk; simpa using h4 k hk⟩ fun i m o hm ho hw => by
  rw [← htb] at hm
  have hr := a1P h6 (i, m) hm
  have hi : i < os.toArray.size := by rw [← hsz]; exact (dc.1 ho).1
  have hpi := Dp.pi i hi
  have hoo : os.toArray[π.getD i 0]? = some (os.toArray[π.getD i 0]) := dc.2 ⟨hpi, rfl⟩
  have hat := qW (inv := inv) Dp hi rfl hoo
  rw [ho] at hat
  have hat := cT hat
  have hoo' : os[π.getD i 0]? = some (os.toArray[π.getD i 0]) := by rw [← hoo]; simp
  simp only [ff] at hr
  rw [hoo', h3 i hi] at hr
  unfold rdW at hr
  rw [hat, yS Dp _ hoo] at hw
  have hr := hr hw
  have hno : yP o = true := by
   unfold uS at hn
   have := dp.1 hn (i, m) hm
   simpa [ho] using this
  have hTm : trH ext[m]? H' = (T m).2 ∨ os.toArray.size < m := by
   unfold trH
   by_cases hm2 : m < os.toArray.size
   ·left; rw [h3 m hm2]
   ·by_cases hm3 : m = os.toArray.size
    ·left
     rw [ef (by omega), hm3, h1]
    ·right; omega
  rcases hTm with hTm | hTm
  ·rw [hTm, ← b0K (inv := inv), ← hat] at hr
   obtain ⟨v, H2, h7, h8⟩ := b1e hno hr
   exact ⟨H2, by rw [h7, h8]⟩
  ·exfalso
   rw [htb] at hm
   have := a2p hm
   rw [hsz] at this
   omega
 rw [h0, h1] at this
 exact ⟨_, _, _, this, h5⟩
end
def RA :=
 And.intro @b8v <| And.intro @b4X <| And.intro @b8k <| And.intro @c1K <| And.intro @c0T <| And.intro @b6T <| And.intro @b9B <| And.intro @c2Y <| And.intro @b9p <| And.intro @b9P <| And.intro @b4K <| And.intro @a7R <| And.intro @b2T <| And.intro @b7d <| And.intro @b2k <| And.intro @a9F <| And.intro @a8F <| And.intro @a6U <| And.intro @b5Z <| And.intro @a9S <| And.intro @b4y <| And.intro @b6D <| And.intro @b3r <| And.intro @b3x <| And.intro @b8P <| And.intro @b2v <| And.intro @a1Z <| And.intro @a2U <| And.intro @a9r <| And.intro @b5f <| And.intro @b2G <| And.intro @b7u <| And.intro @a3l <| And.intro @a2R <| And.intro @b5t <| And.intro @c1o <| And.intro @a6C <| And.intro @a6d <| And.intro @b2g <| And.intro @b6w <| And.intro @a5F <| And.intro @b0v <| And.intro @a9m <| And.intro @a9K <| And.intro @b0f <| And.intro @a5V <| And.intro @a2T <| And.intro @a5o <| And.intro @a1w <| And.intro @b2w <| And.intro @b9t <| And.intro @b8N <| And.intro @b4a <| And.intro @b0c <| And.intro @b3a <| And.intro @b2C <| And.intro @a8C <| And.intro @a8n <| And.intro @a5M <| And.intro @a5J <| And.intro @b5X <| And.intro @b2D <| And.intro @a3a <| And.intro @a9c <| And.intro @a7f <| And.intro @a3d <| And.intro @a7v <| And.intro @a9T <| And.intro @a7Q <| @b5H
def RB :=
 And.intro @b7T <| And.intro @a9n <| And.intro @a8q <| And.intro @b2q <| And.intro @b0n <| And.intro @a5T <| And.intro @a6Z <| And.intro @b5r <| And.intro @a7n <| And.intro @a6o <| And.intro @b9w <| And.intro @b1E <| And.intro @b0r <| And.intro @b9F <| And.intro @b7Z <| And.intro @b8W <| And.intro @b7R <| And.intro @a8y <| And.intro @a5K <| And.intro @b9f <| And.intro @c1F <| And.intro @b5h <| And.intro @a7k <| And.intro @a9X <| And.intro @b7z <| And.intro @b9L <| And.intro @b6A <| And.intro @b2s <| And.intro @b3g <| And.intro @b1Q <| And.intro @b2B <| And.intro @b2F <| And.intro @b2Q <| And.intro @b3G <| And.intro @b2Y <| And.intro @b2l <| And.intro @b2P <| And.intro @b2y <| And.intro @b3D <| And.intro @b6u <| And.intro @b2r <| And.intro @a5m <| And.intro @b2z <| And.intro @b3c <| And.intro @b2a <| And.intro @b2n <| And.intro @b3i <| And.intro @b4p <| And.intro @b6s <| And.intro @b6N <| And.intro @b8H <| And.intro @b7i <| And.intro @a7y <| And.intro @a9k <| And.intro @a9z <| And.intro @b8h <| And.intro @b5L <| And.intro @a7U <| And.intro @b4l <| And.intro @b7g <| And.intro @b2Z <| And.intro @a8L <| And.intro @b3P <| And.intro @b3s <| And.intro @a9t <| And.intro @b3B <| And.intro @b6E <| And.intro @a8i <| And.intro @b2O <| And.intro @b3t <| And.intro @a8K <| And.intro @b2j <| And.intro @a9o <| And.intro @b8F <| And.intro @a6j <| And.intro @a3x <| And.intro @a8w <| And.intro @a6u <| And.intro @b8E <| And.intro @b5O <| And.intro @b3A <| And.intro @b5E <| And.intro @b5W <| And.intro @b2d <| And.intro @b5l <| And.intro @b1Z <| And.intro @a5p <| And.intro @a8f <| And.intro @a7g <| And.intro @a8m <| And.intro @a8V <| And.intro @b3Z <| And.intro @b4H <| And.intro @b2L <| And.intro @b6Q <| And.intro @a7J <| And.intro @a5i <| And.intro @a5O <| And.intro @a7e <| And.intro @a6a <| And.intro @c4H <| And.intro @c5a <| And.intro @b9m <| And.intro @b8u <| And.intro @b4R <| And.intro @b5d <| And.intro @b4x <| And.intro @a8Y <| And.intro @b7x <| And.intro @b6y <| And.intro @b8e <| And.intro @oP <| And.intro @b4U <| And.intro @b5v <| @b8Z
theorem RT :
 (∀ {α : Type} (l : List α), [] ++ l = l) ∧
 (∀ {α : Type} (l : List α), l ++ [] = l) ∧
 (∀ {α : Type} {a : α} {l m : List α}, a :: l ++ m = a :: (l ++ m)) ∧
 (∀ (cs : List Value) (i : Nat) (v : Value) (vs : List Value), iZ cs i (v :: vs) = iZ (cs.set i v) (i + 1) vs) ∧
 (∀ (cs : List Value) (i : Nat), iZ cs i [] = cs) ∧
 (∀ {α : Type} {x : α} {xs : List α} {a : α}, (x :: xs).set 0 a = a :: xs) ∧
 (∀ {α : Type} {x : α} {xs : List α} {i : Nat} {a : α}, (x :: xs).set (i + 1) a = x :: xs.set i a) ∧
 (∀ (n : Nat), 0 + n = n) ∧
 (∀ (n : Nat), n * 1 = n) ∧
 (∀ (n : Nat), n + 0 = n) :=
 ⟨@List.nil_append, @List.append_nil, @List.cons_append, @qF, @uP, @List.set_cons_zero, @List.set_cons_succ, @Nat.zero_add, @Nat.mul_one, @Nat.add_zero⟩
end Go.Ds
namespace Go.Ds
open Go.Proofs Go.Proofs.Tryz
abbrev I (n : Int) : Value := .int .i64 n
theorem sR (H : Heap) : St prog H H [] := .refl ..
theorem kC : prog.follows .mixedOrders = true := by kernel_rfl
theorem tS3 : iF prog 3 = some 1 := by kernel_rfl
theorem b7E : iF prog 26 = some 3 := by kernel_rfl
theorem c1l : iF prog 27 = some 5 := by kernel_rfl
theorem c2W : iF prog 29 = some 3 := by kernel_rfl
theorem c5c : iF prog 32 = some 1 := by kernel_rfl
theorem c5w : iF prog 33 = some 1 := by kernel_rfl
theorem b9C : iF prog 34 = some 1 := by kernel_rfl
theorem lU : iF prog 36 = some 4 := by kernel_rfl
theorem c4s : iF prog 38 = some 1 := by kernel_rfl
theorem c2t : iF prog 39 = some 1 := by kernel_rfl
theorem oA : iF prog 41 = some 3 := by kernel_rfl
theorem b1I : iF prog 49 = some 1 := by kernel_rfl
theorem pL : iF prog 55 = some 2 := by kernel_rfl
theorem a0y : iF prog 57 = some 2 := by kernel_rfl
theorem a0X : iF prog 59 = some 6 := by kernel_rfl
theorem lQ : iF prog 64 = some 2 := by kernel_rfl
theorem a0W : iF prog 69 = some 2 := by kernel_rfl
theorem c4w : iF prog 70 = some 1 := by kernel_rfl
theorem yO : iF prog 72 = some 5 := by kernel_rfl
theorem a8u : iF prog 90 = some 1 := by kernel_rfl
theorem lK : iF prog 104 = some 2 := by kernel_rfl
theorem b0U : iF prog 109 = some 4 := by kernel_rfl
theorem b4N : iF prog 113 = some 9 := by kernel_rfl
theorem wF : iF prog 115 = some 1 := by kernel_rfl
theorem nW : iF prog 117 = some 4 := by kernel_rfl
theorem b6U : iF prog 120 = some 4 := by kernel_rfl
theorem b0D : iF prog 122 = some 4 := by kernel_rfl
theorem tK : iF prog 124 = some 5 := by kernel_rfl
theorem wH : iF prog 153 = some 2 := by kernel_rfl
theorem xI : iF prog 156 = some 3 := by kernel_rfl
theorem b0W : iF prog 192 = some 3 := by kernel_rfl
theorem b6C : iF prog 227 = some 1 := by kernel_rfl
theorem c2v : iT prog 49 = some 1 := by kernel_rfl
theorem nJ : lB prog 114 = true ∧ oF prog 9 = true ∧ lB prog 9 = false := ⟨by kernel_rfl, by kernel_rfl, by kernel_rfl⟩
theorem c6n (A i e : Nat) (k : IntKind) (j : Int) (h0 : 0 ≤ j) (h1 : j < 5) : xD (iT prog 27) prog 27 (ptr A i e) (.int k j) = some (ptr A (i + j.toNat * 1) e) := a4Q (n := 5) (elem := 5) (size := 1) (by kernel_rfl) (by kernel_rfl) A i e k j h0 h1
theorem c6Y (A i e : Nat) (k : IntKind) (j : Int) (h0 : 0 ≤ j) (h1 : j < 3) : xD (iT prog 29) prog 29 (ptr A i e) (.int k j) = some (ptr A (i + j.toNat * 1) e) := a4Q (n := 3) (elem := 28) (size := 1) (by kernel_rfl) (by kernel_rfl) A i e k j h0 h1
theorem c3y (A i e : Nat) (k : IntKind) (j : Int) (h0 : 0 ≤ j) (h1 : j < 64) : xD (iT prog 241) prog 241 (ptr A i e) (.int k j) = some (ptr A (i + j.toNat * 1) e) := a4Q (n := 64) (elem := 5) (size := 1) (by kernel_rfl) (by kernel_rfl) A i e k j h0 h1
theorem c2b : nA prog 32 = some (6, 80) := by kernel_rfl
theorem c4Z : ((iJ prog 32).bind (jA prog)).any jB = true := by kernel_rfl
theorem c1L : nA prog 33 = some (5, 64) := by kernel_rfl
theorem c4F : ((iJ prog 33).bind (jA prog)).any jB = true := by kernel_rfl
theorem a9E : nA prog 34 = some (5, 48) := by kernel_rfl
theorem b9N : ((iJ prog 34).bind (jA prog)).any jB = true := by kernel_rfl
theorem c2s : nA prog 38 = some (1, 8) := by kernel_rfl
theorem c3Y : ((iJ prog 38).bind (jA prog)).any jB = true := by kernel_rfl
theorem b2X : nA prog 44 = some (2, 16) := by kernel_rfl
theorem b8a : ((iJ prog 44).bind (jA prog)).any jB = true := by kernel_rfl
theorem yH : nA prog 49 = some (1, 8) := by kernel_rfl
theorem a2q : ((iJ prog 49).bind (jA prog)).any jB = true := by kernel_rfl
theorem a5N : nA prog 52 = some (2, 16) := by kernel_rfl
theorem c2N : ((iJ prog 52).bind (jA prog)).any jB = true := by kernel_rfl
theorem c0R : nA prog 70 = some (4, 56) := by kernel_rfl
theorem c4n : ((iJ prog 70).bind (jA prog)).any jB = true := by kernel_rfl
theorem qE : nA prog 90 = some (2, 16) := by kernel_rfl
theorem a2i : ((iJ prog 90).bind (jA prog)).any jB = true := by kernel_rfl
theorem b1k : nA prog 114 = some (1, 1) := by kernel_rfl
theorem b1t : ((iJ prog 114).bind (jA prog)).any jB = true := by kernel_rfl
theorem pW : nA prog 115 = some (3, 40) := by kernel_rfl
theorem wA : ((iJ prog 115).bind (jA prog)).any jB = true := by kernel_rfl
theorem c5B : nA prog 144 = some (1, 16) := by kernel_rfl
theorem c4W : ((iJ prog 144).bind (jA prog)).any jB = true := by kernel_rfl
theorem c0p : nA prog 145 = some (2, 16) := by kernel_rfl
theorem c3E : ((iJ prog 145).bind (jA prog)).any jB = true := by kernel_rfl
theorem a3F : nA prog 154 = some (2, 16) := by kernel_rfl
theorem a4i : ((iJ prog 154).bind (jA prog)).any jB = true := by kernel_rfl
theorem b5S : nA prog 164 = some (3, 40) := by kernel_rfl
theorem b3U : ((iJ prog 164).bind (jA prog)).any jB = true := by kernel_rfl
theorem c0s : nA prog 195 = some (2, 16) := by kernel_rfl
theorem c0G : ((iJ prog 195).bind (jA prog)).any jB = true := by kernel_rfl
theorem c2V : c3b prog 49 = some (8, .int .i64 0) := by kernel_rfl
theorem c4U (t2 : TypeId) (cx cy : Bool) (a0 : Int) (a1 : Int) (b0 : Int) (b1 : Int) : kV prog .eql 55 t2 cx cy (.agg #[.int .i64 a0, .int .i64 a1]) (.agg #[.int .i64 b0, .int .i64 b1]) = some (.bool (decide (a0 = b0 ∧ a1 = b1))) ∧ kV prog .neq 55 t2 cx cy (.agg #[.int .i64 a0, .int .i64 a1]) (.agg #[.int .i64 b0, .int .i64 b1]) = some (.bool (decide (¬ (a0 = b0 ∧ a1 = b1)))) := by
 have h := yY (P := prog) (t := 55) (t2 := t2) (cx := cx) (cy := cy) (xs := [.int .i64 a0, .int .i64 a1]) (ys := [.int .i64 b0, .int .i64 b1]) (by kernel_rfl) (by kernel_rfl) (by kernel_rfl) (by kernel_rfl) rfl (by kernel_rfl) rfl rfl
 have e : ((List.range [Value.int .i64 a0, .int .i64 a1].length).all fun j => eqC ([Value.int .i64 a0, .int .i64 a1].getD j undef) ([Value.int .i64 b0, .int .i64 b1].getD j undef)) = decide (a0 = b0 ∧ a1 = b1) := by
  show (eqC (Value.int .i64 a0) (.int .i64 b0) && (eqC (Value.int .i64 a1) (.int .i64 b1) && true)) = _
  rw [ez]
  simp [eqC]
 rw [e] at h
 exact ⟨h.1, by rw [h.2]; simp⟩
theorem c4e (t2 : TypeId) (cx cy : Bool) (a0 : Int) (a1 : Int) (b0 : Int) (b1 : Int) : kV prog .eql 55 t2 cx cy (.agg #[.int .i64 a0, .int .i64 a1]) (.agg #[.int .i64 b0, .int .i64 b1]) = some (.bool (decide (a0 = b0 ∧ a1 = b1))) := (c4U t2 cx cy a0 a1 b0 b1).1
theorem c3R (t2 : TypeId) (cx cy : Bool) (a0 : Int) (a1 : Int) (b0 : Int) (b1 : Int) : kV prog .neq 55 t2 cx cy (.agg #[.int .i64 a0, .int .i64 a1]) (.agg #[.int .i64 b0, .int .i64 b1]) = some (.bool (decide (¬ (a0 = b0 ∧ a1 = b1)))) := (c4U t2 cx cy a0 a1 b0 b1).2
theorem c4v (t2 : TypeId) (cx cy : Bool) (a0 : Int) (a1 : Int) (b0 : Int) (b1 : Int) : kV prog .eql 64 t2 cx cy (.agg #[.int .i64 a0, .int .i64 a1]) (.agg #[.int .i64 b0, .int .i64 b1]) = some (.bool (decide (a0 = b0 ∧ a1 = b1))) ∧ kV prog .neq 64 t2 cx cy (.agg #[.int .i64 a0, .int .i64 a1]) (.agg #[.int .i64 b0, .int .i64 b1]) = some (.bool (decide (¬ (a0 = b0 ∧ a1 = b1)))) := by
 have h := yY (P := prog) (t := 64) (t2 := t2) (cx := cx) (cy := cy) (xs := [.int .i64 a0, .int .i64 a1]) (ys := [.int .i64 b0, .int .i64 b1]) (by kernel_rfl) (by kernel_rfl) (by kernel_rfl) (by kernel_rfl) rfl (by kernel_rfl) rfl rfl
 have e : ((List.range [Value.int .i64 a0, .int .i64 a1].length).all fun j => eqC ([Value.int .i64 a0, .int .i64 a1].getD j undef) ([Value.int .i64 b0, .int .i64 b1].getD j undef)) = decide (a0 = b0 ∧ a1 = b1) := by
  show (eqC (Value.int .i64 a0) (.int .i64 b0) && (eqC (Value.int .i64 a1) (.int .i64 b1) && true)) = _
  rw [ez]
  simp [eqC]
 rw [e] at h
 exact ⟨h.1, by rw [h.2]; simp⟩
theorem c3L (t2 : TypeId) (cx cy : Bool) (a0 : Int) (a1 : Int) (b0 : Int) (b1 : Int) : kV prog .eql 64 t2 cx cy (.agg #[.int .i64 a0, .int .i64 a1]) (.agg #[.int .i64 b0, .int .i64 b1]) = some (.bool (decide (a0 = b0 ∧ a1 = b1))) := (c4v t2 cx cy a0 a1 b0 b1).1
theorem c3D (t2 : TypeId) (cx cy : Bool) (a0 : Int) (a1 : Int) (b0 : Int) (b1 : Int) : kV prog .neq 64 t2 cx cy (.agg #[.int .i64 a0, .int .i64 a1]) (.agg #[.int .i64 b0, .int .i64 b1]) = some (.bool (decide (¬ (a0 = b0 ∧ a1 = b1)))) := (c4v t2 cx cy a0 a1 b0 b1).2
theorem c0b (t2 : TypeId) (cx cy : Bool) (a0 : Int) (a1 : Int) (b0 : Int) (b1 : Int) : kV prog .eql 104 t2 cx cy (.agg #[.int .u64 a0, .int .u64 a1]) (.agg #[.int .u64 b0, .int .u64 b1]) = some (.bool (decide (a0 = b0 ∧ a1 = b1))) ∧ kV prog .neq 104 t2 cx cy (.agg #[.int .u64 a0, .int .u64 a1]) (.agg #[.int .u64 b0, .int .u64 b1]) = some (.bool (decide (¬ (a0 = b0 ∧ a1 = b1)))) := by
 have h := yY (P := prog) (t := 104) (t2 := t2) (cx := cx) (cy := cy) (xs := [.int .u64 a0, .int .u64 a1]) (ys := [.int .u64 b0, .int .u64 b1]) (by kernel_rfl) (by kernel_rfl) (by kernel_rfl) (by kernel_rfl) rfl (by kernel_rfl) rfl rfl
 have e : ((List.range [Value.int .u64 a0, .int .u64 a1].length).all fun j => eqC ([Value.int .u64 a0, .int .u64 a1].getD j undef) ([Value.int .u64 b0, .int .u64 b1].getD j undef)) = decide (a0 = b0 ∧ a1 = b1) := by
  show (eqC (Value.int .u64 a0) (.int .u64 b0) && (eqC (Value.int .u64 a1) (.int .u64 b1) && true)) = _
  rw [ez]
  simp [eqC]
 rw [e] at h
 exact ⟨h.1, by rw [h.2]; simp⟩
theorem c1v (t2 : TypeId) (cx cy : Bool) (a0 : Int) (a1 : Int) (b0 : Int) (b1 : Int) : kV prog .eql 104 t2 cx cy (.agg #[.int .u64 a0, .int .u64 a1]) (.agg #[.int .u64 b0, .int .u64 b1]) = some (.bool (decide (a0 = b0 ∧ a1 = b1))) := (c0b t2 cx cy a0 a1 b0 b1).1
theorem c1A (t2 : TypeId) (cx cy : Bool) (a0 : Int) (a1 : Int) (b0 : Int) (b1 : Int) : kV prog .neq 104 t2 cx cy (.agg #[.int .u64 a0, .int .u64 a1]) (.agg #[.int .u64 b0, .int .u64 b1]) = some (.bool (decide (¬ (a0 = b0 ∧ a1 = b1)))) := (c0b t2 cx cy a0 a1 b0 b1).2
theorem c0I (t2 : TypeId) (cx cy : Bool) (a0 : Int) (a1 : Int) (b0 : Int) (b1 : Int) : kV prog .eql 153 t2 cx cy (.agg #[.int .i64 a0, .int .i64 a1]) (.agg #[.int .i64 b0, .int .i64 b1]) = some (.bool (decide (a0 = b0 ∧ a1 = b1))) ∧ kV prog .neq 153 t2 cx cy (.agg #[.int .i64 a0, .int .i64 a1]) (.agg #[.int .i64 b0, .int .i64 b1]) = some (.bool (decide (¬ (a0 = b0 ∧ a1 = b1)))) := by
 have h := yY (P := prog) (t := 153) (t2 := t2) (cx := cx) (cy := cy) (xs := [.int .i64 a0, .int .i64 a1]) (ys := [.int .i64 b0, .int .i64 b1]) (by kernel_rfl) (by kernel_rfl) (by kernel_rfl) (by kernel_rfl) rfl (by kernel_rfl) rfl rfl
 have e : ((List.range [Value.int .i64 a0, .int .i64 a1].length).all fun j => eqC ([Value.int .i64 a0, .int .i64 a1].getD j undef) ([Value.int .i64 b0, .int .i64 b1].getD j undef)) = decide (a0 = b0 ∧ a1 = b1) := by
  show (eqC (Value.int .i64 a0) (.int .i64 b0) && (eqC (Value.int .i64 a1) (.int .i64 b1) && true)) = _
  rw [ez]
  simp [eqC]
 rw [e] at h
 exact ⟨h.1, by rw [h.2]; simp⟩
theorem c2G (t2 : TypeId) (cx cy : Bool) (a0 : Int) (a1 : Int) (b0 : Int) (b1 : Int) : kV prog .eql 153 t2 cx cy (.agg #[.int .i64 a0, .int .i64 a1]) (.agg #[.int .i64 b0, .int .i64 b1]) = some (.bool (decide (a0 = b0 ∧ a1 = b1))) := (c0I t2 cx cy a0 a1 b0 b1).1
theorem c2d (t2 : TypeId) (cx cy : Bool) (a0 : Int) (a1 : Int) (b0 : Int) (b1 : Int) : kV prog .neq 153 t2 cx cy (.agg #[.int .i64 a0, .int .i64 a1]) (.agg #[.int .i64 b0, .int .i64 b1]) = some (.bool (decide (¬ (a0 = b0 ∧ a1 = b1)))) := (c0I t2 cx cy a0 a1 b0 b1).2
theorem c0Z {a1 : ByteArray} : kT prog 36 [(0, .string a1)] = some (.agg #[.string a1, .slice none 0 0, .slice none 0 0, .slice none 0 0]) := by kernel_rfl
theorem a4u {a1 : ByteArray} {a2 : Value} {a3 : Value} {a4 : Value} (h2 : a2.cells = #[a2] ∧ oneCell a2 = true ∧ pR a2 = true) (h3 : a3.cells = #[a3] ∧ oneCell a3 = true ∧ pR a3 = true) (h4 : a4.cells = #[a4] ∧ oneCell a4 = true ∧ pR a4 = true) : kT prog 36 [(0, .string a1), (1, a2), (2, a3), (3, a4)] = some (.agg #[.string a1, a2, a3, a4]) := by cases a2 <;> cases a3 <;> cases a4 <;> first | (exfalso; simp [oneCell] at h2; done) | (exfalso; simp [oneCell] at h3; done) | (exfalso; simp [oneCell] at h4; done) | kernel_rfl
theorem b4u {a1 : Value} {a2 : Int} (h1 : a1.cells = #[a1] ∧ oneCell a1 = true ∧ pR a1 = true) : kT prog 41 [(0, a1), (1, .int .u64 a2)] = some (.agg #[a1, .int .u64 a2, .int .u64 0]) := by cases a1 <;> first | (exfalso; simp [oneCell] at h1; done) | kernel_rfl
theorem b7k {a1 : Int} {a2 : Int} : kT prog 41 [(1, .int .u64 a1), (2, .int .u64 a2)] = some (.agg #[.slice none 0 0, .int .u64 a1, .int .u64 a2]) := by kernel_rfl
theorem c0C : kT prog 55 [] = some (.agg #[.int .i64 0, .int .i64 0]) := by kernel_rfl
theorem a6F {a1 : Int} {a2 : Int} : kT prog 55 [(0, .int .i64 a1), (1, .int .i64 a2)] = some (.agg #[.int .i64 a1, .int .i64 a2]) := by kernel_rfl
theorem xJ {a1 : Int} {a2 : Int} : kT prog 57 [(0, .int .i64 a1), (1, .int .i64 a2)] = some (.agg #[.int .i64 a1, .int .i64 a2]) := by kernel_rfl
theorem a5w {a1 : ByteArray} {a2 : ByteArray} {a3 : Int} {a4 : Int} {a5 : Int} : kT prog 59 [(0, .string a1), (1, .string a2), (2, .agg #[.int .i64 a3, .int .i64 a4]), (3, .int .i64 a5)] = some (.agg #[.string a1, .string a2, .int .i64 a3, .int .i64 a4, .int .i64 a5, .slice none 0 0]) := by kernel_rfl
theorem a2P {a1 : ByteArray} {a2 : ByteArray} {a3 : Int} {a4 : Int} {a5 : Int} {a6 : Value} (h6 : a6.cells = #[a6] ∧ oneCell a6 = true ∧ pR a6 = true) : kT prog 59 [(0, .string a1), (1, .string a2), (2, .agg #[.int .i64 a3, .int .i64 a4]), (3, .int .i64 a5), (4, a6)] = some (.agg #[.string a1, .string a2, .int .i64 a3, .int .i64 a4, .int .i64 a5, a6]) := by cases a6 <;> first | (exfalso; simp [oneCell] at h6; done) | kernel_rfl
theorem c3l : kT prog 64 [] = some (.agg #[.int .i64 0, .int .i64 0]) := by kernel_rfl
theorem qT {a1 : Int} {a2 : Int} : kT prog 64 [(0, .int .i64 a1), (1, .int .i64 a2)] = some (.agg #[.int .i64 a1, .int .i64 a2]) := by kernel_rfl
theorem c2w {a1 : Int} : kT prog 64 [(1, .int .i64 a1)] = some (.agg #[.int .i64 0, .int .i64 a1]) := by kernel_rfl
theorem a6S {a1 : Int} {a2 : Int} : kT prog 69 [(0, .int .i64 a1), (1, .int .i64 a2)] = some (.agg #[.int .i64 a1, .int .i64 a2]) := by kernel_rfl
theorem a9O {a1 : ByteArray} {a2 : Bool} {a3 : Int} {a4 : Int} : kT prog 72 [(0, .string a1), (1, .bool a2), (2, .agg #[.int .i64 a3, .int .i64 a4])] = some (.agg #[.string a1, .bool a2, .int .i64 a3, .int .i64 a4, .slice none 0 0]) := by kernel_rfl
theorem a1L {a1 : ByteArray} {a2 : Int} {a3 : Int} {a4 : Value} (h4 : a4.cells = #[a4] ∧ oneCell a4 = true ∧ pR a4 = true) : kT prog 72 [(0, .string a1), (2, .agg #[.int .i64 a2, .int .i64 a3]), (3, a4)] = some (.agg #[.string a1, .bool false, .int .i64 a2, .int .i64 a3, a4]) := by cases a4 <;> first | (exfalso; simp [oneCell] at h4; done) | kernel_rfl
theorem b0i : kT prog 104 [] = some (.agg #[.int .u64 0, .int .u64 0]) := by kernel_rfl
theorem b2R {a1 : Int} {a2 : Int} : kT prog 104 [(0, .int .u64 a1), (1, .int .u64 a2)] = some (.agg #[.int .u64 a1, .int .u64 a2]) := by kernel_rfl
theorem b2U {a1 : ByteArray} {a2 : Int} {a3 : Int} : kT prog 117 [(0, .string a1), (1, .agg #[.int .i64 a2, .int .i64 a3])] = some (.agg #[.string a1, .int .i64 a2, .int .i64 a3, .slice none 0 0]) := by kernel_rfl
theorem a7i {a1 : ByteArray} {a2 : Int} {a3 : Int} {a4 : Value} (h4 : a4.cells = #[a4] ∧ oneCell a4 = true ∧ pR a4 = true) : kT prog 117 [(0, .string a1), (1, .agg #[.int .i64 a2, .int .i64 a3]), (2, a4)] = some (.agg #[.string a1, .int .i64 a2, .int .i64 a3, a4]) := by cases a4 <;> first | (exfalso; simp [oneCell] at h4; done) | kernel_rfl
theorem a5Q {a1 : ByteArray} {a2 : Int} {a3 : Int} : kT prog 124 [(0, .string a1), (1, .int .i64 a2), (2, .int .i64 a3)] = some (.agg #[.string a1, .int .i64 a2, .int .i64 a3, .int .i64 0, .bool false]) := by kernel_rfl
theorem a1a {a1 : ByteArray} {a2 : Int} {a3 : Int} {a4 : Int} {a5 : Bool} : kT prog 124 [(0, .string a1), (1, .int .i64 a2), (2, .int .i64 a3), (3, .int .i64 a4), (4, .bool a5)] = some (.agg #[.string a1, .int .i64 a2, .int .i64 a3, .int .i64 a4, .bool a5]) := by kernel_rfl
theorem qI {a1 : Int} {a2 : Int} : kT prog 153 [(0, .int .i64 a1), (1, .int .i64 a2)] = some (.agg #[.int .i64 a1, .int .i64 a2]) := by kernel_rfl
theorem c1t : kT prog 156 [] = some (.agg #[.int .i64 0, .int .i64 0, .slice none 0 0]) := by kernel_rfl
theorem lI {a1 : Int} {a2 : Int} {a3 : Value} (h3 : a3.cells = #[a3] ∧ oneCell a3 = true ∧ pR a3 = true) : kT prog 156 [(0, .int .i64 a1), (1, .int .i64 a2), (2, a3)] = some (.agg #[.int .i64 a1, .int .i64 a2, a3]) := by cases a3 <;> first | (exfalso; simp [oneCell] at h3; done) | kernel_rfl
theorem b3n {a1 : Value} {a2 : Int} {a3 : Int} (h1 : a1.cells = #[a1] ∧ oneCell a1 = true ∧ pR a1 = true) : kT prog 192 [(0, a1), (1, .agg #[.int .i64 a2, .int .i64 a3])] = some (.agg #[a1, .int .i64 a2, .int .i64 a3]) := by cases a1 <;> first | (exfalso; simp [oneCell] at h1; done) | kernel_rfl
theorem b1J {a1 : Int} {a2 : Int} : kT prog 215 [(0, .int .u64 a1), (1, .int .u64 a2)] = some (.agg #[.int .u64 a1, .int .u64 a2]) := by kernel_rfl
theorem tR3 (l : List Value) (H : Heap) : iC prog Tryz.f3 l H = some (get l 6) := rfl
theorem c5W (l : List Value) (H : Heap) : iC prog Tryz.f10 l H = some (get l 0) := rfl
theorem a8U (l : List Value) (H : Heap) : iC prog Tryz.f11 l H = some (get l 2) := rfl
theorem c6H (l : List Value) (H : Heap) : iC prog Tryz.f12 l H = pO (jR prog 36) (iF prog 36) H (get l 2) := by
 show (Option.bind (Option.bind (lO prog H 36 (get l 2)) fun v => some [v]) fun vs => _) = _
 rw [lE]
 cases pO _ _ H (get l 2) <;> rfl
theorem c5V (l : List Value) (H : Heap) : iC prog Tryz.f13 l H = pO (jR prog 41) (iF prog 41) H (get l 4) := by
 show (Option.bind (Option.bind (lO prog H 41 (get l 4)) fun v => some [v]) fun vs => _) = _
 rw [lE]
 cases pO _ _ H (get l 4) <;> rfl
theorem c6i (l : List Value) (H : Heap) : iC prog Tryz.f14 l H = some (get l 4) := rfl
theorem c3O (l : List Value) (H : Heap) : iC prog Tryz.f15 l H = if (jE (get l 6) && (jE (get l 7) && true)) = true then some (.tuple #[get l 6, get l 7]) else none := rfl
theorem c5y (l : List Value) (H : Heap) : iC prog Tryz.f16 l H = if (jE (get l 6) && (jE (get l 7) && true)) = true then some (.tuple #[get l 6, get l 7]) else none := rfl
theorem c5L (l : List Value) (H : Heap) : iC prog Tryz.f17 l H = some (get l 6) := rfl
theorem c6T (l : List Value) (H : Heap) : iC prog Tryz.f18 l H = some (get l 6) := rfl
theorem c2j (l : List Value) (H : Heap) : iC prog Tryz.f19 l H = some (get l 4) := rfl
theorem c6D (l : List Value) (H : Heap) : iC prog Tryz.f22 l H = some (get l 4) := rfl
theorem c5d (l : List Value) (H : Heap) : iC prog Tryz.f28 l H = if (jE (get l 6) && (jE (get l 7) && true)) = true then some (.tuple #[get l 6, get l 7]) else none := rfl
theorem c4d (l : List Value) (H : Heap) : iC prog Tryz.f29 l H = if (jE (get l 8) && (jE (get l 9) && true)) = true then some (.tuple #[get l 8, get l 9]) else none := rfl
theorem b2h (l : List Value) (H : Heap) : iC prog Tryz.f33 l H = some (get l 4) := rfl
theorem b8n (l : List Value) (H : Heap) : iC prog Tryz.f34 l H = some (get l 4) := rfl
theorem a3c (l : List Value) (H : Heap) : iC prog Tryz.f36 l H = some (get l 2) := rfl
theorem c6x (l : List Value) (H : Heap) : iC prog Tryz.f37 l H = pO (jR prog 36) (iF prog 36) H (get l 0) := by
 show (Option.bind (Option.bind (lO prog H 36 (get l 0)) fun v => some [v]) fun vs => _) = _
 rw [lE]
 cases pO _ _ H (get l 0) <;> rfl
theorem c5P (l : List Value) (H : Heap) : iC prog Tryz.f38 l H = some (get l 4) := rfl
theorem c5Q (l : List Value) (H : Heap) : iC prog Tryz.f39 l H = (pO (jR prog 104) (iF prog 104) H (get l 2)).bind fun v => if (jE v && (jE (get l 3) && true)) = true then some (.tuple #[v, get l 3]) else none := by
 show (Option.bind (Option.bind (lO prog H 104 (get l 2)) fun v => some [v, get l 3]) fun vs => _) = _
 rw [lE]
 cases pO _ _ H (get l 2) <;> rfl
theorem c6U (l : List Value) (H : Heap) : iC prog Tryz.f40 l H = pO (jR prog 59) (iF prog 59) H (get l 4) := by
 show (Option.bind (Option.bind (lO prog H 59 (get l 4)) fun v => some [v]) fun vs => _) = _
 rw [lE]
 cases pO _ _ H (get l 4) <;> rfl
theorem a8S (l : List Value) (H : Heap) : iC prog Tryz.f41 l H = pO (jR prog 117) (iF prog 117) H (get l 8) := by
 show (Option.bind (Option.bind (lO prog H 117 (get l 8)) fun v => some [v]) fun vs => _) = _
 rw [lE]
 cases pO _ _ H (get l 8) <;> rfl
theorem c5r (l : List Value) (H : Heap) : iC prog Tryz.f42 l H = if (jE (get l 6) && (jE (get l 7) && true)) = true then some (.tuple #[get l 6, get l 7]) else none := rfl
theorem c5X (l : List Value) (H : Heap) : iC prog Tryz.f43 l H = some (get l 4) := rfl
theorem c6z (l : List Value) (H : Heap) : iC prog Tryz.f44 l H = some (get l 6) := rfl
theorem c6B (l : List Value) (H : Heap) : iC prog Tryz.f45 l H = some (get l 6) := rfl
theorem c3M (l : List Value) (H : Heap) : iC prog Tryz.f47 l H = some (get l 4) := rfl
theorem c1n (l : List Value) (H : Heap) : iC prog Tryz.f48 l H = some (get l 2) := rfl
theorem b6b (l : List Value) (H : Heap) : iC prog Tryz.f49 l H = some (get l 6) := rfl
theorem c6t (l : List Value) (H : Heap) : iC prog Tryz.f50 l H = (pO (jR prog 104) (iF prog 104) H (get l 2)).bind fun v => if (jE v && (jE (get l 3) && true)) = true then some (.tuple #[v, get l 3]) else none := by
 show (Option.bind (Option.bind (lO prog H 104 (get l 2)) fun v => some [v, get l 3]) fun vs => _) = _
 rw [lE]
 cases pO _ _ H (get l 2) <;> rfl
theorem c4D (l : List Value) (H : Heap) : iC prog Tryz.f53 l H = if (jE (get l 6) && (jE (get l 7) && true)) = true then some (.tuple #[get l 6, get l 7]) else none := rfl
theorem c2l (l : List Value) (H : Heap) : iC prog Tryz.f54 l H = if (jE (get l 8) && (jE (get l 9) && true)) = true then some (.tuple #[get l 8, get l 9]) else none := rfl
theorem b9e (l : List Value) (H : Heap) : iC prog Tryz.f55 l H = some (get l 4) := rfl
theorem c6P (l : List Value) (H : Heap) : iC prog Tryz.f58 l H = some (get l 2) := rfl
theorem c6h (l : List Value) (H : Heap) : iC prog Tryz.f59 l H = some (get l 4) := rfl
theorem b2c (l : List Value) (H : Heap) : iC prog Tryz.f60 l H = some (get l 2) := rfl
theorem a8Q (l : List Value) (H : Heap) : iC prog Tryz.f61 l H = some (get l 2) := rfl
theorem c3u (l : List Value) (H : Heap) : iC prog Tryz.f62 l H = some (get l 4) := rfl
theorem b4e (l : List Value) (H : Heap) : iC prog Tryz.f63 l H = some (get l 4) := rfl
theorem a0f (l : List Value) (H : Heap) : iC prog Tryz.f64 l H = some (get l 4) := rfl
theorem c6k (l : List Value) (H : Heap) : iC prog Tryz.f65 l H = some (get l 6) := rfl
theorem c5M (l : List Value) (H : Heap) : iC prog Tryz.f66 l H = pO (jR prog 59) (iF prog 59) H (get l 2) := by
 show (Option.bind (Option.bind (lO prog H 59 (get l 2)) fun v => some [v]) fun vs => _) = _
 rw [lE]
 cases pO _ _ H (get l 2) <;> rfl
theorem c5Z (l : List Value) (H : Heap) : iC prog Tryz.f67 l H = some (get l 2) := rfl
theorem c4S (l : List Value) (H : Heap) : iC prog Tryz.f68 l H = pO (jR prog 104) (iF prog 104) H (get l 4) := by
 show (Option.bind (Option.bind (lO prog H 104 (get l 4)) fun v => some [v]) fun vs => _) = _
 rw [lE]
 cases pO _ _ H (get l 4) <;> rfl
theorem c5N (l : List Value) (H : Heap) : iC prog Tryz.f69 l H = pO (jR prog 57) (iF prog 57) H (get l 2) := by
 show (Option.bind (Option.bind (lO prog H 57 (get l 2)) fun v => some [v]) fun vs => _) = _
 rw [lE]
 cases pO _ _ H (get l 2) <;> rfl
theorem c6c (l : List Value) (H : Heap) : iC prog Tryz.f70 l H = pO (jR prog 57) (iF prog 57) H (get l 2) := by
 show (Option.bind (Option.bind (lO prog H 57 (get l 2)) fun v => some [v]) fun vs => _) = _
 rw [lE]
 cases pO _ _ H (get l 2) <;> rfl
theorem c6G (l : List Value) (H : Heap) : iC prog Tryz.f71 l H = if (jE (get l 4) && (jE (get l 5) && true)) = true then some (.tuple #[get l 4, get l 5]) else none := rfl
theorem c3j (l : List Value) (H : Heap) : iC prog Tryz.f72 l H = some (get l 6) := rfl
theorem c6e (l : List Value) (H : Heap) : iC prog Tryz.f73 l H = some (get l 6) := rfl
theorem c5T (l : List Value) (H : Heap) : iC prog Tryz.f74 l H = some (get l 2) := rfl
theorem c6d (l : List Value) (H : Heap) : iC prog Tryz.f75 l H = some (get l 4) := rfl
theorem c6m (l : List Value) (H : Heap) : iC prog Tryz.f76 l H = some (get l 6) := rfl
theorem c6L (l : List Value) (H : Heap) : iC prog Tryz.f77 l H = some (get l 4) := rfl
theorem c3V (l : List Value) (H : Heap) : iC prog Tryz.f79 l H = some (get l 4) := rfl
theorem b9v (l : List Value) (H : Heap) : iC prog Tryz.f82 l H = some (get l 2) := rfl
theorem c4g (l : List Value) (H : Heap) : iC prog Tryz.f86 l H = some (get l 6) := rfl
theorem b4C (l : List Value) (H : Heap) : iC prog Tryz.f87 l H = some (get l 4) := rfl
theorem c6p (l : List Value) (H : Heap) : iC prog Tryz.f88 l H = some (get l 4) := rfl
theorem c3F (l : List Value) (H : Heap) : iC prog Tryz.f89 l H = some (get l 2) := rfl
theorem c6S (l : List Value) (H : Heap) : iC prog Tryz.f90 l H = some (get l 2) := rfl
theorem c6X (l : List Value) (H : Heap) : iC prog Tryz.f91 l H = some (get l 2) := rfl
theorem c6E (l : List Value) (H : Heap) : iC prog Tryz.f92 l H = pO (jR prog 104) (iF prog 104) H (get l 4) := by
 show (Option.bind (Option.bind (lO prog H 104 (get l 4)) fun v => some [v]) fun vs => _) = _
 rw [lE]
 cases pO _ _ H (get l 4) <;> rfl
theorem b5B (l : List Value) (H : Heap) : iC prog Tryz.f93 l H = some (get l 2) := rfl
theorem b6z (l : List Value) (H : Heap) : iC prog Tryz.f94 l H = some (get l 2) := rfl
theorem c4p (l : List Value) (H : Heap) : iC prog Tryz.f95 l H = some (get l 2) := rfl
theorem c5n (l : List Value) (H : Heap) : iC prog Tryz.f96 l H = some (get l 2) := rfl
theorem a1c (l : List Value) (H : Heap) : iC prog Tryz.f97 l H = some (get l 4) := rfl
theorem c6b (l : List Value) (H : Heap) : iC prog Tryz.f98 l H = some (get l 4) := rfl
theorem c6q (l : List Value) (H : Heap) : iC prog Tryz.f99 l H = some (get l 3) := rfl
theorem c0y (l : List Value) (H : Heap) : iC prog Tryz.f100 l H = some (get l 4) := rfl
theorem c4z (l : List Value) (H : Heap) : iC prog Tryz.f101 l H = some (get l 4) := rfl
theorem b4m (l : List Value) (H : Heap) : iC prog Tryz.f102 l H = some (get l 4) := rfl
theorem c4E (l : List Value) (H : Heap) : iC prog Tryz.f103 l H = some (get l 6) := rfl
theorem c5l (l : List Value) (H : Heap) : iC prog Tryz.f104 l H = some (get l 6) := rfl
theorem c4i (l : List Value) (H : Heap) : iC prog Tryz.f105 l H = some (.tuple #[]) := rfl
theorem b9X (l : List Value) (H : Heap) : iC prog Tryz.f106 l H = some (get l 4) := rfl
theorem c0A (l : List Value) (H : Heap) : iC prog Tryz.f118 l H = if (jE (get l 6) && (jE (get l 7) && true)) = true then some (.tuple #[get l 6, get l 7]) else none := rfl
theorem c4c (l : List Value) (H : Heap) : iC prog Tryz.f119 l H = some (get l 4) := rfl
theorem c5e (l : List Value) (H : Heap) : iC prog Tryz.f120 l H = some (get l 4) := rfl
theorem c5s (l : List Value) (H : Heap) : iC prog Tryz.f121 l H = some (.tuple #[]) := rfl
theorem c4L (l : List Value) (H : Heap) : iC prog Tryz.f122 l H = some (get l 2) := rfl
theorem a3n (l : List Value) (H : Heap) : iC prog Tryz.f123 l H = some (get l 2) := rfl
theorem c5h (l : List Value) (H : Heap) : iC prog Tryz.f124 l H = some (get l 4) := rfl
theorem c0f (l : List Value) (H : Heap) : iC prog Tryz.f125 l H = some (get l 2) := rfl
theorem b5Q (l : List Value) (H : Heap) : iC prog Tryz.f126 l H = some (get l 2) := rfl
theorem a1N (l : List Value) (H : Heap) : iC prog Tryz.f127 l H = some (get l 4) := rfl
theorem c0B (l : List Value) (H : Heap) : iC prog Tryz.f128 l H = some (get l 4) := rfl
theorem c4N (l : List Value) (H : Heap) : iC prog Tryz.f133 l H = some (get l 6) := rfl
theorem c0o (l : List Value) (H : Heap) : iC prog Tryz.f134 l H = some (.tuple #[]) := rfl
theorem c3J (l : List Value) (H : Heap) : iC prog Tryz.f135 l H = some (get l 4) := rfl
theorem b4z (l : List Value) (H : Heap) : iC prog Tryz.f136 l H = some (get l 2) := rfl
theorem c0k (l : List Value) (H : Heap) : iC prog Tryz.f150 l H = some (get l 2) := rfl
theorem b5D (l : List Value) (H : Heap) : iC prog Tryz.f151 l H = some (get l 4) := rfl
theorem c4Y (l : List Value) (H : Heap) : iC prog Tryz.f152 l H = some (get l 4) := rfl
theorem c0w (l : List Value) (H : Heap) : iC prog Tryz.f153 l H = some (get l 2) := rfl
theorem c0j (l : List Value) (H : Heap) : iC prog Tryz.f154 l H = some (get l 4) := rfl
theorem c4G (l : List Value) (H : Heap) : iC prog Tryz.f155 l H = some (get l 4) := rfl
theorem c0x (l : List Value) (H : Heap) : iC prog Tryz.f165 l H = pO (jR prog 156) (iF prog 156) H (get l 4) := by
 show (Option.bind (Option.bind (lO prog H 156 (get l 4)) fun v => some [v]) fun vs => _) = _
 rw [lE]
 cases pO _ _ H (get l 4) <;> rfl
theorem b1s (l : List Value) (H : Heap) : iC prog Tryz.f166 l H = (pO (jR prog 55) (iF prog 55) H (get l 6)).bind fun v => if (jE v && (jE (get l 7) && true)) = true then some (.tuple #[v, get l 7]) else none := by
 show (Option.bind (Option.bind (lO prog H 55 (get l 6)) fun v => some [v, get l 7]) fun vs => _) = _
 rw [lE]
 cases pO _ _ H (get l 6) <;> rfl
theorem c3T (l : List Value) (H : Heap) : iC prog Tryz.f167 l H = some (get l 2) := rfl
theorem c3n (l : List Value) (H : Heap) : iC prog Tryz.f172 l H = some (get l 2) := rfl
theorem c0d (l : List Value) (H : Heap) : iC prog Tryz.f173 l H = some (get l 4) := rfl
theorem c0a (l : List Value) (H : Heap) : iC prog Tryz.f185 l H = some (get l 4) := rfl
theorem c0z (l : List Value) (H : Heap) : iC prog Tryz.f186 l H = some (get l 3) := rfl
theorem c4A (l : List Value) (H : Heap) : iC prog Tryz.f187 l H = some (get l 4) := rfl
theorem a6V : MapK prog 147 Value.string (.bool false) := MapK.str (kt := 9) (et := 4) (by kernel_rfl) (by kernel_rfl) (by kernel_rfl) rfl
theorem a7z : MapK prog 227 (fun p : Int × Int => .agg #[I p.1, I p.2]) (.bool false) := MapK.struct (kt := 64) (et := 4) (fs := (zZ prog 64).toArray) (by kernel_rfl) (by kernel_rfl) (by kernel_rfl) rfl (fun b k => by cases b <;> kernel_rfl) (fun a b => c0P (by kernel_rfl) (by kernel_rfl) (by kernel_rfl) (fun _ _ _ _ => by kernel_rfl) a b) (fun k => c2r k)
theorem tt0 : jR prog 3 = some false ∧ jR prog 4 = some false ∧ iF prog 4 = some 1 ∧ jR prog 5 = some false ∧ iF prog 5 = some 1 ∧ jR prog 9 = some false ∧ iF prog 9 = some 1 ∧ jR prog 22 = some false ∧ iF prog 22 = some 1 ∧ jR prog 23 = some false ∧ iF prog 23 = some 1 ∧ jR prog 24 = some false ∧ iF prog 24 = some 1 ∧ jR prog 26 = some true ∧ jR prog 27 = some true ∧ jR prog 28 = some false ∧ iF prog 28 = some 1 ∧ jR prog 29 = some true ∧ jR prog 32 = some false ∧ jR prog 33 = some false ∧ jR prog 34 = some false ∧ jR prog 36 = some true ∧ jR prog 38 = some false ∧ jR prog 39 = some false ∧ jR prog 41 = some true ∧ jR prog 44 = some false ∧ iF prog 44 = some 1 ∧ jR prog 49 = some false ∧ jR prog 55 = some true ∧ jR prog 57 = some true ∧ jR prog 59 = some true ∧ jR prog 64 = some true ∧ jR prog 69 = some true ∧ jR prog 70 = some false ∧ jR prog 72 = some true ∧ jR prog 90 = some false ∧ jR prog 104 = some true ∧ jR prog 107 = some false ∧ iF prog 107 = some 1 ∧ jR prog 109 = some true := by and_intros <;> kernel_rfl
theorem tt1 : jR prog 111 = some false ∧ iF prog 111 = some 1 ∧ jR prog 113 = some true ∧ jR prog 115 = some false ∧ jR prog 117 = some true ∧ jR prog 120 = some true ∧ jR prog 122 = some true ∧ jR prog 124 = some true ∧ jR prog 153 = some true ∧ jR prog 154 = some false ∧ iF prog 154 = some 1 ∧ jR prog 156 = some true ∧ jR prog 192 = some true ∧ jR prog 227 = some false ∧ iT prog 22 = some 9 ∧ iT prog 23 = some 4 ∧ iT prog 24 = some 4 ∧ iT prog 32 = some 6 ∧ iT prog 33 = some 5 ∧ iT prog 34 = some 5 ∧ iT prog 38 = some 1 ∧ iT prog 44 = some 2 ∧ iT prog 52 = some 2 ∧ iT prog 70 = some 4 ∧ iT prog 78 = some 1 ∧ iT prog 90 = some 2 ∧ iT prog 107 = some 4 ∧ iT prog 114 = some 1 ∧ iT prog 115 = some 3 ∧ iT prog 144 = some 1 ∧ iT prog 145 = some 2 ∧ iT prog 154 = some 2 ∧ iT prog 164 = some 3 ∧ iT prog 195 = some 2 ∧ lN prog 32 = true ∧ lN prog 33 = true ∧ lN prog 34 = true ∧ lN prog 38 = true ∧ lN prog 44 = true ∧ lN prog 49 = true := by and_intros <;> kernel_rfl
theorem tt2 : lN prog 52 = true ∧ lN prog 70 = true ∧ lN prog 90 = true ∧ lN prog 114 = true ∧ lN prog 115 = true ∧ lN prog 144 = true ∧ lN prog 145 = true ∧ lN prog 154 = true ∧ lN prog 164 = true ∧ lN prog 195 = true ∧ iT prog 9 = none ∧ oF prog 9 = true ∧ iW prog 26 0 = some 0 ∧ iW prog 26 1 = some 1 ∧ iW prog 26 2 = some 2 ∧ iW prog 36 0 = some 0 ∧ iW prog 36 1 = some 1 ∧ iW prog 36 2 = some 2 ∧ iW prog 36 3 = some 3 ∧ iW prog 41 0 = some 0 ∧ iW prog 41 1 = some 1 ∧ iW prog 41 2 = some 2 ∧ iW prog 55 0 = some 0 ∧ iW prog 55 1 = some 1 ∧ iW prog 57 0 = some 0 ∧ iW prog 57 1 = some 1 ∧ iW prog 59 0 = some 0 ∧ iW prog 59 1 = some 1 ∧ iW prog 59 2 = some 2 ∧ iW prog 59 3 = some 4 ∧ iW prog 59 4 = some 5 ∧ iW prog 64 0 = some 0 ∧ iW prog 64 1 = some 1 ∧ iW prog 69 0 = some 0 ∧ iW prog 69 1 = some 1 ∧ iW prog 72 0 = some 0 ∧ iW prog 72 2 = some 2 ∧ iW prog 72 3 = some 4 ∧ iW prog 104 0 = some 0 ∧ iW prog 104 1 = some 1 := by and_intros <;> kernel_rfl
theorem tt3 : iW prog 109 0 = some 0 ∧ iW prog 109 1 = some 1 ∧ iW prog 109 2 = some 2 ∧ iW prog 109 3 = some 3 ∧ iW prog 113 0 = some 0 ∧ iW prog 113 1 = some 1 ∧ iW prog 113 2 = some 2 ∧ iW prog 113 3 = some 3 ∧ iW prog 113 4 = some 4 ∧ iW prog 117 0 = some 0 ∧ iW prog 117 1 = some 1 ∧ iW prog 117 2 = some 3 ∧ iW prog 120 0 = some 0 ∧ iW prog 120 1 = some 1 ∧ iW prog 120 2 = some 2 ∧ iW prog 120 3 = some 3 ∧ iW prog 122 0 = some 0 ∧ iW prog 122 1 = some 1 ∧ iW prog 122 2 = some 2 ∧ iW prog 122 3 = some 3 ∧ iW prog 124 0 = some 0 ∧ iW prog 124 1 = some 1 ∧ iW prog 124 2 = some 2 ∧ iW prog 124 3 = some 3 ∧ iW prog 124 4 = some 4 ∧ iW prog 153 0 = some 0 ∧ iW prog 153 1 = some 1 ∧ iW prog 156 0 = some 0 ∧ iW prog 156 1 = some 1 ∧ iW prog 156 2 = some 2 ∧ iW prog 192 0 = some 0 ∧ iW prog 192 1 = some 1 ∧ jA prog 36 = some (.agg #[.string ⟨#[]⟩, .slice none 0 0, .slice none 0 0, .slice none 0 0]) ∧ jS prog 36 = none ∧ jA prog 41 = some (.agg #[.slice none 0 0, .int .u64 0, .int .u64 0]) ∧ jS prog 41 = none ∧ jA prog 55 = some (.agg #[.int .i64 0, .int .i64 0]) ∧ jS prog 55 = none ∧ jA prog 57 = some (.agg #[.int .i64 0, .int .i64 0]) ∧ jS prog 57 = none := by and_intros <;> kernel_rfl
theorem tt4 : jA prog 59 = some (.agg #[.string ⟨#[]⟩, .string ⟨#[]⟩, .int .i64 0, .int .i64 0, .int .i64 0, .slice none 0 0]) ∧ jS prog 59 = none ∧ jA prog 64 = some (.agg #[.int .i64 0, .int .i64 0]) ∧ jS prog 64 = none ∧ jA prog 69 = some (.agg #[.int .i64 0, .int .i64 0]) ∧ jS prog 69 = none ∧ jA prog 72 = some (.agg #[.string ⟨#[]⟩, .bool false, .int .i64 0, .int .i64 0, .slice none 0 0]) ∧ jS prog 72 = none ∧ jA prog 90 = some (.slice none 0 0) ∧ jS prog 90 = none ∧ jA prog 104 = some (.agg #[.int .u64 0, .int .u64 0]) ∧ jS prog 104 = none ∧ jA prog 109 = some (.agg #[.int .u8 0, .int .u8 0, .bool false, .slice none 0 0]) ∧ jS prog 109 = none ∧ jA prog 117 = some (.agg #[.string ⟨#[]⟩, .int .i64 0, .int .i64 0, .slice none 0 0]) ∧ jS prog 117 = none ∧ jA prog 122 = some (.agg #[.int .u8 0, .int .u8 0, .int .i8 0, .bool false]) ∧ jS prog 122 = none ∧ jA prog 124 = some (.agg #[.string ⟨#[]⟩, .int .i64 0, .int .i64 0, .int .i64 0, .bool false]) ∧ jS prog 124 = none ∧ jA prog 153 = some (.agg #[.int .i64 0, .int .i64 0]) ∧ jS prog 153 = none ∧ jA prog 156 = some (.agg #[.int .i64 0, .int .i64 0, .slice none 0 0]) ∧ jS prog 156 = none ∧ jA prog 227 = some (.map none) ∧ jS prog 227 = none ∧ a0Y prog 3 = some .i64 ∧ a0Y prog 5 = some .u8 ∧ a0Y prog 39 = some .u64 ∧ a0Y prog 111 = some .i8 ∧ a0Y prog 125 = some .u64 := by and_intros <;> kernel_rfl
def TS := (And.intro (And.intro (And.intro (And.intro (And.intro @tt0 (And.intro @tt1 @tt2)) (And.intro @tt3 (And.intro @tt4 @tS3))) (And.intro (And.intro @b7E (And.intro @c1l @c2W)) (And.intro @c5c (And.intro @c5w @b9C)))) (And.intro (And.intro (And.intro @lU (And.intro @c4s @c2t)) (And.intro @oA (And.intro @b1I @pL))) (And.intro (And.intro @a0y (And.intro @a0X @lQ)) (And.intro @a0W (And.intro @c4w @yO))))) (And.intro (And.intro (And.intro (And.intro @a8u (And.intro @lK @b0U)) (And.intro @b4N (And.intro @wF @nW))) (And.intro (And.intro @b6U (And.intro @b0D @tK)) (And.intro @wH (And.intro @xI @b0W)))) (And.intro (And.intro (And.intro @b6C (And.intro @c2v @c6n)) (And.intro @c6Y (And.intro @c3y @c4e))) (And.intro (And.intro @c3R (And.intro @c3L @c3D)) (And.intro (And.intro @c1v @c1A) (And.intro @c2G @c2d))))))
def RZ := And.intro @RB (And.intro @RC @TS)
end Go.Ds
