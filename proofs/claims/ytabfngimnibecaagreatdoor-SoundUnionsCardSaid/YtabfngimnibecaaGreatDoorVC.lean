/-
  A part of the proof of SoundUnions.
-/
import Derived.Test.YtabfngimnibecaaGreatDoorVA
import Derived.Test.YtabfngimnibecaaGreatDoorVB
import Derived.Test.YtabfngimnibecaaGreatDoorProg
import Derived.KernelRfl
import Derived.Lib.LaidTab
import Derived.Stop.LaidErr
import Derived.Laws.Strings
set_option linter.unusedVariables false
set_option linter.unusedSimpArgs false
set_option linter.defProp false
set_option linter.unusedSectionVars false
namespace Go.Ds
noncomputable section
inductive Pth where
 | z
 | l (p : Pth)
 | r (p : Pth)
inductive Fr where
 | e
 | n (v : Value) (l r : Fr)
def a0f : Nat → Nat → Pth := fun f => Nat.rec (motive := fun _ => Nat → Pth) (fun _ => .z) (fun _ ih k => Nat.rec (motive := fun _ => Pth) .z (fun k _ => Bool.rec (motive := fun _ => Pth) (.r (ih (Nat.div k 2))) (.l (ih (Nat.div k 2))) (Nat.beq (Nat.mod k 2) 0)) k) f
def cM (k : Nat) : Pth := a0f k k
def fI (p : Pth) : Fr → Value := Pth.rec (motive := fun _ => Fr → Value)
 (fun f => Fr.rec (motive := fun _ => Value) undef (fun v _ _ _ _ => v) f)
 (fun _ ih f => Fr.rec (motive := fun _ => Value) undef (fun _ l _ _ _ => ih l) f)
 (fun _ ih f => Fr.rec (motive := fun _ => Value) undef (fun _ _ r _ _ => ih r) f) p
def hK {α : Type} (v : Value) (p : Pth) : Fr → (Fr → α) → α := Pth.rec (motive := fun _ => Fr → (Fr → α) → α)
 (fun f K => Fr.rec (motive := fun _ => α) (K (.n v .e .e)) (fun _ l r _ _ => K (.n v l r)) f)
 (fun _ ih f K => Fr.rec (motive := fun _ => α) (ih .e fun l => K (.n undef l .e)) (fun w l r _ _ => ih l fun l => K (.n w l r)) f)
 (fun _ ih f K => Fr.rec (motive := fun _ => α) (ih .e fun r => K (.n undef .e r)) (fun w l r _ _ => ih r fun r => K (.n w l r)) f) p
def dD {α : Type} (p : Pth) : (Pth → α) → α := Pth.rec (motive := fun _ => (Pth → α) → α) (fun K => K .z) (fun _ ih K => ih fun p => K (.l p)) (fun _ ih K => ih fun p => K (.r p)) p
inductive LArg where
 | t (p : Pth)
 | c (v : Value)
def eE (f : Fr) (x : LArg) : Value := LArg.rec (motive := fun _ => Value) (fun p => fI p f) (fun v => v) x
inductive Rs where
 | no
 | ok (v : Value) (H : Heap)
 | th (v : Value) (H : Heap)
def fK {α : Type} (v : Value) (K : Value → α) : α :=
 match v with
 | .bool b => K (.bool b)
 | .int k n => K (.int k n)
 | .string s => K (.string s)
 | .pointer a => K (.pointer a)
 | .slice a n c => K (.slice a n c)
 | .map r => K (.map r)
 | .func fn a b => K (.func fn a b)
 | .agg cs => K (.agg cs)
 | .tuple vs => K (.tuple vs)
 | v => K v
inductive LOp where
 | bad
 | mv (x : LArg)
 | pick (c a b : LArg)
 | bin (g : IntKind → Int → Int → Option Value) (x y : LArg)
 | not (x : LArg)
 | ld1 (x : LArg)
 | ldn (n : Nat) (x : LArg)
 | st (n : Nat) (x y : LArg)
 | fa (off : Nat) (x : LArg)
 | ixs (size : Nat) (x i : LArg)
 | ixa (n size : Nat) (x i : LArg)
 | ext (i : Nat) (x : LArg)
 | f1 (off : Nat) (x : LArg)
 | fn (off n : Nat) (x : LArg)
 | len (x : LArg)
 | slen (x : LArg)
 | app (elem size bytes : Nat) (x y : LArg)
 | alloc (t : TypeId) (cs : List Value)
 | callF (f : FuncId) (p : Pth) (args : List LArg)
 | callV (g : LArg) (args : List LArg)
 | gen (o : Oper)
inductive LOps where
 | nil
 | cons (d : Option Pth) (o : LOp) (rest : LOps)
 | gcons (p : Pth) (w : Bool) (d : Option Pth) (o : LOp) (rest : LOps)
inductive LCode where
 | bad
 | skip
 | reg (ops : LOps)
 | drw (ops : LOps) (tab : List (Nat × Option Nat × Option (Pth × Bool) × LOp))
 | seq (a b : LCode)
 | cond (c : LArg) (x y : LCode)
 | block (id : Nat) (b : LCode)
 | loop (b : LCode)
 | exit (id : Nat)
 | ret
 | range (g : LArg) (ps : List Pth) (pp : List Pth) (params : Array Tmp) (assign body : Code) (a b : LCode)
inductive LRes where
 | t (p : Pth)
 | c1 (p : Pth)
 | cn (n : Nat) (p : Pth)
structure LFunc where
 ps : List Pth
 body : LCode
 res : List LRes
inductive LT where
 | e
 | n (g : Option LFunc) (l r : LT)
def uZ (p : Pth) : LT → Option LFunc := Pth.rec (motive := fun _ => LT → Option LFunc)
 (fun f => LT.rec (motive := fun _ => Option LFunc) none (fun v _ _ _ _ => v) f)
 (fun _ ih f => LT.rec (motive := fun _ => Option LFunc) none (fun _ l _ _ _ => ih l) f)
 (fun _ ih f => LT.rec (motive := fun _ => Option LFunc) none (fun _ _ r _ _ => ih r) f) p
def jS {α : Type} (v : LFunc) (p : Pth) : LT → (LT → α) → α := Pth.rec (motive := fun _ => LT → (LT → α) → α)
 (fun f K => LT.rec (motive := fun _ => α) (K (.n (some v) .e .e)) (fun _ l r _ _ => K (.n (some v) l r)) f)
 (fun _ ih f K => LT.rec (motive := fun _ => α) (ih .e fun l => K (.n none l .e)) (fun w l r _ _ => ih l fun l => K (.n w l r)) f)
 (fun _ ih f K => LT.rec (motive := fun _ => α) (ih .e fun r => K (.n none .e r)) (fun w l r _ _ => ih r fun r => K (.n w l r)) f) p
structure LEnv where
 L : Nat
 ps : List Pth
 pp : List Pth
 a : LCode
 b : LCode
def b4Z (P : Program) (o : Oper) (ρ : Operand → Value) (H : Heap) : Option (Value × Heap) :=
 if o.op.operands.toList.all (fun x => flat (ρ x)) then
  match aI P (execOp ρ o) with
  | some (.value v) => if flat v then some (v, H) else none
  | _ => none
 else none
def b8g (P : Program) (o : Oper) (ρ : Operand → Value) (H : Heap) : Option (Value × Heap) :=
 let keep (v : Option Value) : Option (Value × Heap) := v.map fun v => (v, H)
 let plain : Option (Value × Heap) := b4Z P o ρ H
 match o.op with
 | .move x | .assign x => some (ρ x, H)
 | .pick c a b => match ρ c with | .bool t => some (if t then ρ a else ρ b, H) | _ => none
 | .alloc t => (aZ P t).bind fun z => if aY z then jA P H t z else none
 | .box t x => oU P H t (ρ x)
 | .build t parts =>
   let ps := parts.toList.map fun (i, x) => (i, ρ x)
   if (aZ P t).any aY && ps.all (fun x => x.2.cells.toList.all oneCell) then
    (P.built t ps).map fun cs => (.agg cs, H)
   else none
 | .buildSlice t len parts =>
   (aH P t).bind fun elem => (aE P elem).bind fun size => (aZ P elem).bind fun z =>
   let ps := parts.toList.map fun (i, x) => (i, ρ x)
   if len == 0 && ps.isEmpty && size != 0 then some (.slice (some ⟨H.length, 0, some 0⟩) 0 size, jX H elem []) else
   if aY z && ps.all (fun x => x.2.cells.toList.all oneCell) && len * size ≤ 2 ^ 24 && len * size != 0 && z.cells.size == size then
    (Instr.fill (fun i => some (i * size, size)) ((Array.range (len * size)).map (z.cells[· % z.cells.size]!)) ps).map fun cs =>
      (.slice (some ⟨H.length, 0, some cs.toList.length⟩) len size, jX H elem cs.toList)
   else none
 | .makeSlice t n c =>
   (aH P t).bind fun elem => (aE P elem).bind fun size => (fO P elem).bind fun bytes => (aZ P elem).bind fun z =>
   match ρ n, ρ c with
   | .int .i64 a, .int .i64 b =>
     if aY z && decide (a ≤ b) && 0 ≤ a && b * (bytes + 1) ≤ (gD : Int) && size != 0 && z.cells.size == size then
      let cs := if size = 1 then List.replicate b.toNat (z.cells[0]!) else (madeCells z.cells (b.toNat * size)).toList
      some (.slice (some ⟨H.length, 0, some cs.length⟩) a.toNat size, jX H elem cs)
     else none
   | _, _ => none
 | .load t a => keep (dH P H t (ρ a))
 | .store t a x => (jD P H t (ρ a) (ρ x)).map fun H => (undef, H)
 | .nilCheck x => match ρ x with
   | .pointer (some a) => some (.pointer (some a), H)
   | .func (.func f) a b => some (.func (.func f) a b, H)
   | _ => none
 | .fieldAddr s x f => match ρ x with
   | .pointer (some ⟨A, i, some e⟩) => (fY P s f).bind fun fd => (aE P fd.type).bind fun n => if n == 0 then none else some (.pointer (some ⟨A, i + fd.offset, some e⟩), H)
   | _ => none
 | .indexAddr t x ix => match P.underlying t, ρ x, ρ ix with
   | some (.slice elem), .slice (some ⟨A, i, some e⟩) n _, .int _ j => (aE P elem).bind fun size =>
     if 0 ≤ j && j < n then some (.pointer (some ⟨A, i + j.toNat * size, some e⟩), H) else none
   | some (.array n elem), .pointer (some ⟨A, i, some e⟩), .int _ j => (aE P elem).bind fun size =>
     if 0 ≤ j && j < n then some (.pointer (some ⟨A, i + j.toNat * size, some e⟩), H) else none
   | some (.array n elem), .pointer (some ⟨A, i, none⟩), .int _ j => (aE P elem).bind fun size =>
     if 0 ≤ j && j < n then some (.pointer (some ⟨A, i + j.toNat * size, none⟩), H) else none
   | _, _, _ => none
 | .slice t x lo hi none => if flat (ρ x) then plain else match bK P t with
   | some (n, elem) => keep (a0i P H n elem (ρ x) (lo.map ρ) (hi.map ρ))
   | none => keep (oE P t (ρ x) (lo.map ρ) (hi.map ρ))
 | .field t x f => if flat (ρ x) then plain else
   match ρ x with
   | .agg cs => (fY P t f).bind fun fd => match bJ P fd.type with
     | some true => (aE P fd.type).map fun n => (.agg (cs.extract fd.offset (fd.offset + n)), H)
     | some false => (cs[fd.offset]?).map fun v => (v, H)
     | none => none
   | _ => none
 | .extract t i => match ρ t with
   | .tuple vs => (vs[i]?).map fun v => (v, H)
   | _ => none
 | .makeFunc fn first captured => match fn with
   | .func f => if (first ++ captured).toList.all (fun x => gU (ρ x)) then some (.func (.func f) (first.map ρ) (captured.map ρ), H) else none
   | _ => none
 | .binOp op t x y _ => match op, ρ x, ρ y with
   | .eql, .slice (some _) _ _, .slice none 0 0 => if ((P.underlying t).map mX) == some true then some (.bool false, H) else none
   | .neq, .slice (some _) _ _, .slice none 0 0 => if ((P.underlying t).map mX) == some true then some (.bool true, H) else none
   | op, .int k a, .int k' b => if k = k' then (match eF op k a b with | some v => some (v, H) | none => plain) else plain
   | .eql, .pointer (some _), .pointer none => if lE P t then some (.bool false, H) else none
   | .neq, .pointer (some _), .pointer none => if lE P t then some (.bool true, H) else none
   | .eql, .pointer (some ⟨A, i, some e⟩), .pointer (some ⟨A', i', some e'⟩) => if lE P t && A == A' && i == i' && e == e' then some (.bool true, H) else none
   | .neq, .pointer (some ⟨A, i, some e⟩), .pointer (some ⟨A', i', some e'⟩) => if lE P t && A == A' && i == i' && e == e' then some (.bool false, H) else none
   | _, _, _ => plain
 | .call c => match c.callee with
   | .builtin .len => if c.args.size == 1 && c.argTypes.size == 1 then
      match (P.underlying (c.argTypes.getD 0 0)), ρ (c.args.getD 0 (.tmp 0)) with
      | some (.slice _), .slice a n k => keep (oF H (.slice a n k))
      | some .string, .string s => keep (oF H (.string s))
      | some (.map _ _), .map r => keep (oF H (.map r))
      | _, _ => none
     else none
   | .builtin .append => if c.args.size == 2 && c.argTypes.size == 2 && ((P.underlying (c.argTypes.getD 1 0)).map gW) == some true then
      fC P H (c.argTypes.getD 0 0) (ρ (c.args.getD 0 (.tmp 0))) (ρ (c.args.getD 1 (.tmp 0)))
     else none
   | .builtin .copy => if c.args.size == 2 && c.argTypes.size == 2 then sI P H (c.argTypes.getD 0 0) (ρ (c.args.getD 0 (.tmp 0))) (ρ (c.args.getD 1 (.tmp 0))) else none
   | .builtin .clear => if c.args.size == 1 && c.argTypes.size == 1 then kJ P H (c.argTypes.getD 0 0) (ρ (c.args.getD 0 (.tmp 0))) else none
   | .builtin .cap => plain
   | .builtin .unsafeSliceData => if c.args.size == 1 && c.argTypes.size == 1 then match ρ (c.args.getD 0 (.tmp 0)) with
      | .slice (some a) n _ => if n == 0 then none else some (.pointer (some a), H)
      | _ => none
     else none
   | .builtin .unsafeString => if c.args.size == 2 && c.argTypes.size == 2 then nI P H (c.argTypes.getD 0 0) (ρ (c.args.getD 0 (.tmp 0))) (ρ (c.args.getD 1 (.tmp 0))) else none
   | .builtin .max => plain
   | .builtin .min => plain
   | _ => none
 | .unOp op _ x => match op, ρ x with
   | .not, .bool b => some (.bool (!b), H)
   | _, _ => plain
 | .makeMap t r => gV P H t (r.map ρ)
 | .lookup t x k c => keep (gN P H t (ρ x) (ρ k) c)
 | .mapUpdate t m k v => (tI P H t (ρ m) (ρ k) (ρ v)).map fun H => (undef, H)
 | .convert s t x => if flat (ρ x) && !(cU P t) then plain else match ρ x with
   | .slice (some ⟨A, i, some e⟩) n _ => if cU P s && gB P t then keep ((bA H A i e n).bind fun l => (eW l).map .string) else none
   | .string b => if cU P t && gB P s && b.size ≤ 2 ^ 40 then (aH P t).bind fun elem => some (.slice (some ⟨H.length, 0, some b.size⟩) b.size 1, b1K H elem (b.data.toList.map fun c => .int .u8 c.toNat)) else none
   | .pointer (some ⟨A, 0, some e⟩) => if yD P H s t A e then some (.pointer (some ⟨A, 0, some e⟩), H) else none
   | _ => none
 | .index _ _ _ => plain
 | .makeInterface _ _ => plain
 | _ => none
def fH {α : Type} (b : Bool) (no : α) (x : α) : α := Bool.rec (motive := fun _ => α) no x b
def a1z {α : Type} (cs : List α) : Nat → Bool := List.rec (motive := fun _ => Nat → Bool) (fun e => Nat.beq e 0) (fun _ _ ih e => Nat.rec (motive := fun _ => Bool) true (fun m _ => ih m) e) cs
def yU {α : Type} (cs : List α) : Nat → Bool := List.rec (motive := fun _ => Nat → Bool) (fun e => Nat.beq e 0) (fun _ _ ih e => Nat.rec (motive := fun _ => Bool) false (fun m _ => ih m) e) cs
def tG {α : Type} (cs : List α) : Nat → Option α := List.rec (motive := fun _ => Nat → Option α) (fun _ => none) (fun v _ ih e => Nat.rec (motive := fun _ => Option α) (some v) (fun m _ => ih m) e) cs
def uE {α : Type} (cs : List α) : Nat → (List α → Rs) → Rs := List.rec (motive := fun _ => Nat → (List α → Rs) → Rs) (fun n K => Nat.rec (motive := fun _ => Rs) (K []) (fun _ _ => .no) n) (fun v _ ih n K => Nat.rec (motive := fun _ => Rs) (K []) (fun m _ => ih m fun l => K (v :: l)) n) cs
def a6R {α : Type} (cs : List α) : Nat → List α := List.rec (motive := fun _ => Nat → List α) (fun _ => []) (fun v t ih n => Nat.rec (motive := fun _ => List α) (v :: t) (fun m _ => ih m) n) cs
def kIx (k : IntKind) : Nat := IntKind.rec (motive := fun _ => Nat) 0 1 2 3 4 5 6 7 k
def hMv (x : LArg) (f : Fr) (H : Heap) : Rs := fK (eE f x) fun v => .ok v H
def b0o (c a b : LArg) (f : Fr) (H : Heap) : Rs := match eE f c with
 | .bool t => fK (eE f (Bool.rec (motive := fun _ => LArg) b a t)) fun v => .ok v H
 | _ => .no
def oV (v : Option Value) (H : Heap) : Rs := Option.rec (motive := fun _ => Rs) .no (fun v => .th v H) v
def b6a (g : IntKind → Int → Int → Option Value) (k : IntKind) (a : Int) (H : Heap) (y : Value) : Rs := match y with
 | .int k' b => fH (Nat.beq (kIx k) (kIx k')) .no (oV (g k a b) H)
 | _ => .no
def b8s (g : IntKind → Int → Int → Option Value) (x y : LArg) (f : Fr) (H : Heap) : Rs := match eE f x with
 | .int k a => b6a g k a H (eE f y)
 | _ => .no
def c4e (x : LArg) (f : Fr) (H : Heap) : Rs := match eE f x with
 | .bool b => .ok (.bool (Bool.rec (motive := fun _ => Bool) true false b)) H
 | _ => .no
def b3h (b : Option Blk) (i e : Nat) (H : Heap) : Rs := match b with
 | some (.cells cs _ _ lo _) => fH (Nat.ble lo e) .no (fH (a1z cs e) .no (fH (Nat.ble (Nat.succ i) e) .no (Option.rec (motive := fun _ => Rs) .no (fun v => fK v fun v => .ok v H) (tG cs i))))
 | _ => .no
def b7a (b : Option Blk) (i : Nat) (H : Heap) : Rs := match b with
 | some (.cells cs _ false lo 1) => fH (a1z cs lo) .no (Option.rec (motive := fun _ => Rs) .no (fun v => fK v fun v => .ok v H) (tG cs i))
 | _ => .no
def a8W (x : LArg) (f : Fr) (H : Heap) : Rs := match eE f x with
 | .pointer (some ⟨A, i, some e⟩) => b3h (aQ H A) i e H
 | .pointer (some ⟨A, i, none⟩) => b7a (aQ H A) i H
 | _ => .no
def b3o (b : Option Blk) (n i e : Nat) (H : Heap) : Rs := match b with
 | some (.cells cs _ _ lo _) => fH (Nat.ble lo e) .no (fH (a1z cs e) .no (fH (Nat.ble (Nat.add i n) e) .no (uE (a6R cs i) n fun l => .ok (.agg ⟨l⟩) H)))
 | _ => .no
def a8N (n : Nat) (x : LArg) (f : Fr) (H : Heap) : Rs := match eE f x with
 | .pointer (some ⟨A, i, some e⟩) => b3o (aQ H A) n i e H
 | _ => .no
def stB (b : Option Blk) (n A i e : Nat) (vs : List Value) (H : Heap) : Rs := match b with
 | some (.cells cs ty true lo ver) => fH (yU vs n) .no (fH (vs.all oneCell) .no (fH (yU cs e) .no (fH (Nat.ble (Nat.add i n) e) .no (fH (Nat.ble lo e) .no
    (.th undef (hset H A (.cells (aX cs i vs) ty true e ver)))))))
 | _ => .no
def hSt (n : Nat) (x y : LArg) (f : Fr) (H : Heap) : Rs := match eE f x with
 | .pointer (some ⟨A, i, some e⟩) => stB (aQ H A) n A i e (eE f y).cells.toList H
 | _ => .no
def hFa (off : Nat) (x : LArg) (f : Fr) (H : Heap) : Rs := match eE f x with
 | .pointer (some ⟨A, i, some e⟩) => bY (Nat.add i off) fun i => .ok (.pointer (some ⟨A, i, some e⟩)) H
 | _ => .no
def ixP (A i e size n : Nat) (H : Heap) (j : Value) : Rs := match j with
 | .int _ (.ofNat j) => fH (Nat.blt j n) .no (bY (Nat.add i (Nat.mul j size)) fun i => .ok (.pointer (some ⟨A, i, some e⟩)) H)
 | _ => .no
def b8m (size : Nat) (x i : LArg) (f : Fr) (H : Heap) : Rs := match eE f x with
 | .slice (some ⟨A, a, some e⟩) n _ => ixP A a e size n H (eE f i)
 | _ => .no
def ixG (A i size n : Nat) (H : Heap) (j : Value) : Rs := match j with
 | .int _ (.ofNat j) => fH (Nat.blt j n) .no (bY (Nat.add i (Nat.mul j size)) fun i => .ok (.pointer (some ⟨A, i, none⟩)) H)
 | _ => .no
def b6X (n size : Nat) (x i : LArg) (f : Fr) (H : Heap) : Rs := match eE f x with
 | .pointer (some ⟨A, a, some e⟩) => ixP A a e size n H (eE f i)
 | .pointer (some ⟨A, a, none⟩) => ixG A a size n H (eE f i)
 | _ => .no
def okV (v : Option Value) (H : Heap) : Rs := Option.rec (motive := fun _ => Rs) .no (fun v => fK v fun v => .ok v H) v
def b6J (i : Nat) (x : LArg) (f : Fr) (H : Heap) : Rs := match eE f x with
 | .tuple ⟨vs⟩ => okV (tG vs i) H
 | _ => .no
def hF1 (off : Nat) (x : LArg) (f : Fr) (H : Heap) : Rs := match eE f x with
 | .agg ⟨cs⟩ => okV (tG cs off) H
 | _ => .no
def hFn (off n : Nat) (x : LArg) (f : Fr) (H : Heap) : Rs := match eE f x with
 | .agg ⟨cs⟩ => uE (a6R cs off) n fun l => .ok (.agg ⟨l⟩) H
 | _ => .no
def b7o (x : LArg) (f : Fr) (H : Heap) : Rs := match eE f x with
 | .slice _ n _ => .th (goInt n) H
 | _ => .no
def b1U (x : LArg) (f : Fr) (H : Heap) : Rs := match eE f x with
 | .string s => .th (goInt s.size) H
 | _ => .no
def c0u (b : Option Blk) (elem size bytes A i e k : Nat) (n : Nat) (l : List Value) (P : Program) (H : Heap) : Rs := match b with
 | some (.cells cs ty true lo ver) => fH (Bool.rec (motive := fun _ => Bool) (aE P ty == some size) true (Nat.beq ty elem)) .no (fH (yU cs e) .no (fH (Nat.ble lo e) .no
    (fH (Nat.beq (Nat.add i (Nat.mul k size)) e)
      (fH (Nat.beq n 0) (fH (Nat.ble (Nat.add i (Nat.mul (Nat.add k n) size)) e) .no (.th (.slice (some ⟨A, i, some e⟩) (k + n) size) (hset H A (.cells (aX cs (i + k * size) l) ty true e ver)))) .no)
      (fH (Nat.ble (Nat.mul (Nat.add k n) (Nat.succ bytes)) gD) .no (.th (.slice (some ⟨A, i, some (e + l.length)⟩) (k + n) size) (hset H A (.cells (a1c cs l) ty true lo (Bool.rec (motive := fun _ => Nat) 2 ver (Nat.beq ty elem)))))))))
 | _ => .no
def b9J (P : Program) (elem size bytes : Nat) (s : Value) (H : Heap) (n : Nat) (l : List Value) : Rs := match s with
 | .slice none k c => fH (Nat.beq k 0) .no (fH (Nat.beq c 0) .no (fH (Nat.ble (Nat.mul n (Nat.succ bytes)) gD) .no (fH (Nat.beq n 0) (.th (.slice (some ⟨H.length, 0, some l.length⟩) n size) (jX H elem l)) (.ok (.slice none 0 0) H))))
 | .slice (some ⟨A, i, some e⟩) k _ => c0u (aQ H A) elem size bytes A i e k n l P H
 | _ => .no
def b6w (P : Program) (elem size bytes : Nat) (x y : LArg) (f : Fr) (H : Heap) : Rs := match rR H size (eE f y) with
 | some (n, l) => b9J P elem size bytes (eE f x) H n l
 | none => .no
def b6z (t : TypeId) (cs : List Value) (_ : Fr) (H : Heap) : Rs := .th (.pointer (some ⟨H.length, 0, some cs.length⟩)) (jX H t cs)
def evF (f : Fr) : Operand → Value
 | .tmp t => fI (cM t) f
 | .const v => v
 | .global g => .pointer (some ⟨g, 0, none⟩)
 | .func k => .func (.func k) #[] #[]
def c3J (P : Program) (o : Oper) (f : Fr) (H : Heap) : Rs := match b8g P o (evF f) H with
 | some (v, H1) => .th v H1
 | none => .no
def zV {α : Type} (f : Fr) (l : List LArg) : (List Value → α) → α := List.rec (motive := fun _ => (List Value → α) → α) (fun K => K []) (fun x _ ih K => fK (eE f x) fun v => ih fun l => K (v :: l)) l
structure Calls' where
 fn : Pth → FuncId → List Value → Heap → Rs
 rd : Nat → List Value → Heap → Rs
def b6h (C : Calls') (k : FuncId) (p : Pth) (args : List LArg) (f : Fr) (H : Heap) : Rs := zV f args fun l => C.fn p k l H
def a5E (C : Calls') (l : List Value) (H : Heap) (g : Value) : Rs := match g with
 | .func (.func k) ⟨a⟩ ⟨b⟩ => bY k fun k => dD (cM k) fun p => C.fn p k (a1c a (a1c l b)) H
 | .func (.yield L) _ _ => C.rd L l H
 | _ => .no
def b8c (C : Calls') (g : LArg) (args : List LArg) (f : Fr) (H : Heap) : Rs := zV f args fun l => a5E C l H (eE f g)
def c4b (_ : Fr) (_ : Heap) : Rs := .no
def xP (P : Program) (C : Calls') (o : LOp) : Fr → Heap → Rs :=
 LOp.rec (motive := fun _ => Fr → Heap → Rs) c4b hMv b0o b8s c4e a8W a8N hSt hFa b8m b6X b6J hF1 hFn b7o b1U (b6w P) b6z (b6h C) (b8c C) (c3J P) o
inductive Rf where
 | no
 | ok (f : Fr) (H : Heap)
def mG {α : Type} (d : Option Pth) (v : Value) (f : Fr) (K : Fr → α) : α := Option.rec (motive := fun _ => α) (K f) (fun p => hK v p f K) d
def a6N {α : Type} (no : α) (d : Option Pth) (f : Fr) (K : Fr → Heap → α) (r : Rs) : α :=
 Rs.rec (motive := fun _ => α) no (fun v H => mG d v f fun f => K f H) (fun v H => pU v fun v => fF H fun H => mG d v f fun f => K f H) r
def isB (v : Value) (w : Bool) : Bool := match v with
 | .bool b => Bool.rec (motive := fun _ => Bool) (Bool.rec (motive := fun _ => Bool) true false w) w b
 | _ => false
def pV (P : Program) (C : Calls') (ops : LOps) : Fr → Heap → Rf := LOps.rec (motive := fun _ => Fr → Heap → Rf)
 (fun f H => .ok f H)
 (fun d o _ ih f H => a6N .no d f ih (xP P C o f H))
 (fun p w d o _ ih f H => fH (isB (fI p f) w) (mG d undef f fun f => ih f H) (a6N .no d f ih (xP P C o f H))) ops
inductive Rt where
 | no
 | ok (tr : List (Fr × Heap × Value)) (f : Fr) (H : Heap)
def a6c (tr : List (Fr × Heap × Value)) (f0 : Fr) (H0 : Heap) (d : Option Pth) (K : List (Fr × Heap × Value) → Fr → Heap → Rt) (r : Rs) : Rt :=
 Rs.rec (motive := fun _ => Rt) .no (fun v H => mG d v f0 fun f => K ((f0, H0, v) :: tr) f H) (fun v H => pU v fun v => fF H fun H => mG d v f0 fun f => K ((f0, H0, v) :: tr) f H) r
def jJ (P : Program) (C : Calls') (ops : LOps) : List (Fr × Heap × Value) → Fr → Heap → Rt := LOps.rec (motive := fun _ => List (Fr × Heap × Value) → Fr → Heap → Rt)
 (fun tr f H => .ok tr f H)
 (fun d o _ ih tr f H => a6c tr f H d ih (xP P C o f H))
 (fun p w d o _ ih tr f H => fH (isB (fI p f) w) (mG d undef f fun f1 => ih ((f, H, undef) :: tr) f1 H) (a6c tr f H d ih (xP P C o f H))) ops
def b4U (v : Value) (r : Rs) : Bool := Rs.rec (motive := fun _ => Bool) false (fun w _ => veq w v) (fun w _ => veq w v) r
def b0f (f : Fr) (g : Option (Pth × Bool)) : Bool := match g with
 | none => true
 | some (p, w) => isB (fI p f) w
def a9O (P : Program) (C : Calls') (tr : List (Fr × Heap × Value)) (H1 : Heap) (x : Nat × Option Nat × Option (Pth × Bool) × LOp) : Bool :=
 match tG tr x.1 with
 | some (f, _, v) => fH (b0f f x.2.2.1) true (match x.2.1 with
   | none => b4U v (xP P C x.2.2.2 f H1)
   | some m => match tG tr m with
     | some (_, H, _) => b4U v (xP P C x.2.2.2 f H)
     | none => false)
 | none => false
def b1d {α : Type} (p : α → Bool) (l : List α) : Bool := List.rec (motive := fun _ => Bool) true (fun x _ ih => fH (p x) false ih) l
inductive Rc where
 | no
 | ok (e : Ex) (f : Fr) (H : Heap)
def c1F (r : Rf) : Rc := Rf.rec (motive := fun _ => Rc) .no (fun f H => .ok .normal f H) r
def b5X (P : Program) (C : Calls') (tab : List (Nat × Option Nat × Option (Pth × Bool) × LOp)) (r : Rt) : Rc := Rt.rec (motive := fun _ => Rc) .no (fun tr f H => fH (b1d (a9O P C tr H) tab) .no (.ok .normal f H)) r
def gF {α : Type} (no : α) (l : List Value) : List Pth → Fr → (Fr → α) → α := List.rec (motive := fun _ => List Pth → Fr → (Fr → α) → α) (fun _ f K => K f)
 (fun v _ ih ps f K => List.rec (motive := fun _ => α) no (fun p ps _ => hK v p f fun f => ih ps f K) ps) l
def zK (H : Heap) (f : Fr) (r : LRes) : Rs := LRes.rec (motive := fun _ => Rs) (fun p => fK (fI p f) fun v => .ok v H) (fun p => a8W (.t p) f H) (fun n p => a8N n (.t p) f H) r
def b1i (H : Heap) (f : Fr) (l : List LRes) : (List Value → Rs) → Rs := List.rec (motive := fun _ => (List Value → Rs) → Rs) (fun K => K []) (fun r _ ih K => Rs.rec (motive := fun _ => Rs) .no (fun v _ => ih fun l => K (v :: l)) (fun _ _ => .no) (zK H f r)) l
def noT (v : Value) : Bool := match v with | .tuple _ => false | _ => true
def a3x (l : List LRes) (f : Fr) (H : Heap) : Rs := match l with
 | [r] => zK H f r
 | l => b1i H f l fun vs => fH (b1d noT vs) .no (.ok (.tuple ⟨vs⟩) H)
def b6G (l : List LRes) (r : Rc) : Rs := match r with
 | .ok .normal f H => a3x l f H
 | .ok .ret f H => a3x l f H
 | _ => .no
abbrev iJ := List LEnv → LCode → Fr → Heap → Rc
def b8w (P : Program) (k : FuncId) (args : List Value) (H : Heap) : Rs := match iD P k args H with
 | some (v, H1) => .th v H1
 | none => .no
def eN (T : LT) (ih : iJ) (E : List LEnv) (p : Pth) (args : List Value) (H : Heap) : Rs := match uZ p T with
 | some g => gF .no args g.ps .e fun f => b6G g.res (ih E g.body f H)
 | none => .no
def b1B (P : Program) (T : LT) (ih : iJ) (E : List LEnv) (p : Pth) (k : FuncId) (args : List Value) (H : Heap) : Rs := match uZ p T with
 | some g => gF .no args g.ps .e fun f => b6G g.res (ih E g.body f H)
 | none => b8w P k args H
def a9X (E : List LEnv) (L : Nat) : Option LEnv := List.rec (motive := fun _ => Option LEnv) none (fun e _ ih => fH (Nat.beq e.L L) ih (some e)) E
def b5J (e : Ex) : Option Code := match e with | .normal => none | .ret => some .ret | .exit id => some (.exit id)
def uG (L : Nat) (e : Ex) (H : Heap) : Rs := match aQ H L with
 | some (.loop ⟨_, _, fn, tmps, ps, a, b, d⟩) => match b5J e with
   | none => .th (.bool true) (hset H L (.loop ⟨.ready, none, fn, tmps, ps, a, b, d⟩))
   | some c => .th (.bool false) (hset H L (.loop ⟨.done, some c, fn, tmps, ps, a, b, d⟩))
 | _ => .no
def a7v (L : Nat) (r : Rc) : Rs := match r with
 | .ok e _ H => uG L e H
 | .no => .no
def rX (ih : iJ) (E : List LEnv) (en : LEnv) (f : Fr) (H : Heap) : Rs := match aQ H en.L with
 | some (.loop ⟨.ready, p, fn, tmps, ps, a, b, d⟩) => fF (hset H en.L (.loop ⟨.busy, p, fn, tmps, ps, a, b, d⟩)) fun H => a7v en.L (ih E en.b f H)
 | _ => .no
def kR (ih : iJ) (E : List LEnv) (en : LEnv) (r : Rc) : Rs := match r with
 | .ok .normal f H => rX ih E en f H
 | _ => .no
def a4p (ih : iJ) (E : List LEnv) (L : Nat) (args : List Value) (H : Heap) : Rs := match a9X E L with
 | some en => match aQ H L with
   | some (.loop ⟨.ready, _, _, ⟨tmps⟩, ps, _, _, _⟩) => fH (yU args ps.size) .no (gF .no tmps en.ps .e fun f => gF .no args en.pp f fun f => kR ih E en (ih E en.a f H))
   | _ => .no
 | none => .no
def rS (P : Program) (T : LT) (ih : iJ) (E : List LEnv) : Calls' := ⟨b1B P T ih E, a4p ih E⟩
def c2T (_ : Fr) (_ : Heap) : Rc := .no
def c0p (f : Fr) (H : Heap) : Rc := .ok .normal f H
def c4d (P : Program) (T : LT) (ih : iJ) (E : List LEnv) (ops : LOps) (f : Fr) (H : Heap) : Rc := c1F (pV P (rS P T ih E) ops f H)
def c3l (P : Program) (T : LT) (ih : iJ) (E : List LEnv) (ops : LOps) (tab : List (Nat × Option Nat × Option (Pth × Bool) × LOp)) (f : Fr) (H : Heap) : Rc := b5X P (rS P T ih E) tab (jJ P (rS P T ih E) ops [] f H)
def b4v (ih : iJ) (E : List LEnv) (b : LCode) (r : Rc) : Rc := match r with
 | .ok .normal f H => ih E b f H
 | r => r
def c3M (ih : iJ) (E : List LEnv) (a b : LCode) (_ _ : Fr → Heap → Rc) (f : Fr) (H : Heap) : Rc := b4v ih E b (ih E a f H)
def b0u (ih : iJ) (E : List LEnv) (c : LArg) (x y : LCode) (_ _ : Fr → Heap → Rc) (f : Fr) (H : Heap) : Rc := match eE f c with
 | .bool t => ih E (Bool.rec (motive := fun _ => LCode) y x t) f H
 | _ => .no
def c0t (id : Nat) (r : Rc) : Rc := match r with
 | .ok (.exit i) f H => .ok (Bool.rec (motive := fun _ => Ex) (.exit i) .normal (Nat.beq i id)) f H
 | r => r
def b7W (ih : iJ) (E : List LEnv) (id : Nat) (b : LCode) (_ : Fr → Heap → Rc) (f : Fr) (H : Heap) : Rc := c0t id (ih E b f H)
def c1k (ih : iJ) (E : List LEnv) (b : LCode) (_ : Fr → Heap → Rc) (f : Fr) (H : Heap) : Rc := b4v ih E (.loop b) (ih E b f H)
def c2g (id : Nat) (f : Fr) (H : Heap) : Rc := .ok (.exit id) f H
def c3h (f : Fr) (H : Heap) : Rc := .ok .ret f H
def frL {α : Type} (f : Fr) (ps : List Pth) : (List Value → α) → α := List.rec (motive := fun _ => (List Value → α) → α) (fun K => K []) (fun p _ ih K => fK (fI p f) fun v => ih fun l => K (v :: l)) ps
def mR (L : Nat) (f : Fr) (H : Heap) : Rc := match aQ H L with
 | some (.loop ⟨.ready, none, fn, tmps, ps, a, b, d⟩) => fF (hset H L (.loop ⟨.exhausted, none, fn, tmps, ps, a, b, d⟩)) fun H => .ok .normal f H
 | some (.loop ⟨.done, none, fn, tmps, ps, a, b, d⟩) => fF (hset H L (.loop ⟨.exhausted, none, fn, tmps, ps, a, b, d⟩)) fun H => .ok .normal f H
 | some (.loop ⟨.done, some .ret, fn, tmps, ps, a, b, d⟩) => fF (hset H L (.loop ⟨.exhausted, some .ret, fn, tmps, ps, a, b, d⟩)) fun H => .ok .ret f H
 | some (.loop ⟨.done, some (.exit id), fn, tmps, ps, a, b, d⟩) => fF (hset H L (.loop ⟨.exhausted, some (.exit id), fn, tmps, ps, a, b, d⟩)) fun H => .ok (.exit id) f H
 | _ => .no
def a7h (L : Nat) (f : Fr) (r : Rs) : Rc := match r with
 | .no => .no
 | .ok _ H => mR L f H
 | .th _ H => fF H fun H => mR L f H
def a6f (T : LT) (ih : iJ) (E : List LEnv) (f : Fr) (L : Nat) (k : FuncId) (args : List Value) (H : Heap) : Rc := dD (cM k) fun p => a7h L f (eN T ih E p args H)
def a4b (T : LT) (ih : iJ) (E : List LEnv) (g : LArg) (ps pp : List Pth) (params : Array Tmp) (assign body : Code) (a b : LCode) (_ _ : Fr → Heap → Rc) (f : Fr) (H : Heap) : Rc := match eE f g with
 | .func (.func k) ⟨x⟩ ⟨y⟩ => bY H.length fun L => frL f ps fun l => fF (H.cons (.loop ⟨.ready, none, 0, ⟨l⟩, params, assign, body, 0⟩)) fun H1 =>
    bY k fun k => a6f T ih (⟨L, ps, pp, a, b⟩ :: E) f L k (a1c x (.func (.yield L) #[] #[] :: y)) H1
 | _ => .no
def a6u (P : Program) (T : LT) (ih : iJ) (E : List LEnv) (c : LCode) : Fr → Heap → Rc :=
 LCode.rec (motive := fun _ => Fr → Heap → Rc) c2T c0p (c4d P T ih E) (c3l P T ih E) (c3M ih E) (b0u ih E) (b7W ih E) (c1k ih E) c2g c3h (a4b T ih E) c
def sP (P : Program) (T : LT) (n : Nat) : iJ := Nat.rec (motive := fun _ => iJ) (fun _ _ _ _ => .no) (fun _ ih => a6u P T ih) n
section
variable {α : Type}
def dI (x : Operand) (K : LArg → α) : α := match x with
 | .tmp t => dD (cM t) fun p => K (.t p)
 | .const v => K (.c v)
 | .global g => K (.c (.pointer (some ⟨g, 0, none⟩)))
 | .func k => K (.c (.func (.func k) #[] #[]))
def a0w (l : List Operand) : (List LArg → α) → α := List.rec (motive := fun _ => (List LArg → α) → α) (fun K => K []) (fun x _ ih K => dI x fun x => ih fun l => K (x :: l)) l
def xT (o : Option Nat) (d : α) (K : Nat → α) : α := match o with
 | some n => bY n K
 | none => d
def c2S (k : IntKind) (a b : Int) : Option Value := some (.int k (nR k (b2U a b)))
def c4M (k : IntKind) (a b : Int) : Option Value := some (.int k (nR k (b2X a b)))
def b9t (a b : Int) : Int := match a, b with
 | .ofNat a, .ofNat b => .ofNat (Nat.mul a b)
 | a, b => a * b
def c1I (k : IntKind) (a b : Int) : Option Value := some (.int k (nR k (b9t a b)))
def b9C (a b : Int) : Int := match a, b with
 | .ofNat a, .ofNat b => .ofNat (Nat.div a b)
 | a, b => a.tdiv b
def b9W (a b : Int) : Int := match a, b with
 | .ofNat a, .ofNat b => .ofNat (Nat.mod a b)
 | a, b => a.tmod b
def b3a (k : IntKind) (a b : Int) : Option Value := match eqI b 0 with | true => none | false => some (.int k (nR k (b9C a b)))
def b3k (k : IntKind) (a b : Int) : Option Value := match eqI b 0 with | true => none | false => some (.int k (b9W a b))
def c3S (_ : IntKind) (a b : Int) : Option Value := some (.bool (eqI a b))
def c2H (_ : IntKind) (a b : Int) : Option Value := some (.bool (!eqI a b))
def c2R (_ : IntKind) (a b : Int) : Option Value := some (.bool (ltI a b))
def c3b (_ : IntKind) (a b : Int) : Option Value := some (.bool (!ltI b a))
def c3B (_ : IntKind) (a b : Int) : Option Value := some (.bool (ltI b a))
def c4E (_ : IntKind) (a b : Int) : Option Value := some (.bool (!ltI a b))
def b2C (op : BinOp) : Option (IntKind → Int → Int → Option Value) := match op with
 | .add => some c2S
 | .sub => some c4M
 | .mul => some c1I
 | .quo => some b3a
 | .rem => some b3k
 | .eql => some c3S
 | .neq => some c2H
 | .lss => some c2R
 | .leq => some c3b
 | .gtr => some c3B
 | .geq => some c4E
 | _ => none
def b8f (d : Option TypeDesc) : Bool := match d with | some (.int _) => true | _ => false
def c4V (P : Program) (s : TypeId) (f : Nat) (d : α) (K1 : Nat → α) (Kn : Nat → Nat → α) : α := match fY P s f with
 | some fd => bY fd.offset fun off => match bJ P fd.type with
   | some true => xT (aE P fd.type) d fun n => Kn off n
   | some false => K1 off
   | none => d
 | none => d
def b1x (P : Program) (o : Oper) (c : Call) (K : LOp → α) : α := match c.callee with
 | .value (.func k) => dD (cM k) fun p => a0w c.args.toList fun l => K (.callF k p l)
 | .value g => dI g fun g => a0w c.args.toList fun l => K (.callV g l)
 | .builtin .len => fH (c.args.size == 1 && c.argTypes.size == 1) (K (.gen o)) (match P.underlying (c.argTypes.getD 0 0) with
    | some (.slice _) => dI (c.args.getD 0 (.tmp 0)) fun x => K (.len x)
    | some .string => dI (c.args.getD 0 (.tmp 0)) fun x => K (.slen x)
    | _ => K (.gen o))
 | .builtin .append => fH (c.args.size == 2 && c.argTypes.size == 2 && ((P.underlying (c.argTypes.getD 1 0)).map gW) == some true) (K (.gen o))
    (match aH P (c.argTypes.getD 0 0) with
     | some elem => xT (aE P elem) (K (.gen o)) fun size => xT (fO P elem) (K (.gen o)) fun bytes => match aZ P elem with
       | some z => fH (z.cells.size == size && size != 0) (K (.gen o)) (bY elem fun elem => dI (c.args.getD 0 (.tmp 0)) fun x => dI (c.args.getD 1 (.tmp 0)) fun y => K (.app elem size bytes x y))
       | none => K (.gen o)
     | none => K (.gen o))
 | _ => K (.gen o)
def b9d (P : Program) (o : Oper) (K : LOp → α) : α := match o.op with
 | .move x => dI x fun x => K (.mv x)
 | .assign x => dI x fun x => K (.mv x)
 | .pick c a b => dI c fun c => dI a fun a => dI b fun b => K (.pick c a b)
 | .binOp op t x y _ => fH (b8f (P.underlying t)) (K (.gen o)) (match b2C op with
   | some g => dI x fun x => dI y fun y => K (.bin g x y)
   | none => K (.gen o))
 | .load t x => match bJ P t with
   | some true => xT (aE P t) (K (.gen o)) fun n => dI x fun x => K (.ldn n x)
   | some false => dI x fun x => K (.ld1 x)
   | none => K (.gen o)
 | .store t x y => xT (aE P t) (K (.gen o)) fun n => dI x fun x => dI y fun y => K (.st n x y)
 | .fieldAddr s x f => match fY P s f with
   | some fd => match aE P fd.type with
     | some 0 => K (.gen o)
     | some _ => bY fd.offset fun off => dI x fun x => K (.fa off x)
     | none => K (.gen o)
   | none => K (.gen o)
 | .indexAddr t x i => match P.underlying t with
   | some (.slice elem) => xT (aE P elem) (K (.gen o)) fun size => dI x fun x => dI i fun i => K (.ixs size x i)
   | some (.array n elem) => xT (aE P elem) (K (.gen o)) fun size => dI x fun x => dI i fun i => K (.ixa n size x i)
   | _ => K (.gen o)
 | .extract t i => bY i fun i => dI t fun t => K (.ext i t)
 | .call c => b1x P o c K
 | _ => K (.gen o)
def pR (P : Program) (o : Oper) (K : LOp → α) : α := fH (o.op.operands.toList.all aM) (K .bad) (b9d P o K)
def a2N (k : Nat) (d : Option Tmp) (no : α) (K : Option Pth → α) : α := match d with
 | none => K none
 | some t => fH (Nat.blt t k) no (dD (cM t) fun p => K (some p))
def mP (P : Program) (k : Nat) (ops : Array Oper) (l : List Oper) : (LOps → α) → α → α := List.rec (motive := fun _ => (LOps → α) → α → α) (fun K _ => K .nil)
 (fun o _ ih K no => a2N k o.dst no fun d => pR P o fun o' => match o.guard with
   | none => ih (fun r => K (.cons d o' r)) no
   | some (j, w) => match (ops[j]?).bind (·.dst) with
     | some t => fH (Nat.blt t k) no (dD (cM t) fun p => rC w fun w => ih (fun r => K (.gcons p w d o' r)) no)
     | none => no) l
def loG (k : Nat) (ops : Array Oper) (g : Option (Nat × Bool)) (no : α) (K : Option (Pth × Bool) → α) : α := match g with
 | none => K none
 | some (j, w) => match (ops[j]?).bind (·.dst) with
   | some t => fH (Nat.blt t k) no (dD (cM t) fun p => rC w fun w => K (some (p, w)))
   | none => no
def lG (P : Program) (k : Nat) (ops : Array Oper) (N : Nat) (tab : List (Nat × Nat)) : (List (Nat × Option Nat × Option (Pth × Bool) × LOp) → α) → α → α := List.rec (motive := fun _ => (List (Nat × Option Nat × Option (Pth × Bool) × LOp) → α) → α → α) (fun K _ => K [])
 (fun x _ ih K no => match ops[x.1]? with
   | some o => loG k ops o.guard no fun g => pR P o fun o' => bY (N - 1 - x.1) fun i => fH (Nat.blt x.2 N) (ih (fun l => K ((i, none, g, o') :: l)) no) (bY (N - 1 - x.2) fun m => ih (fun l => K ((i, some m, g, o') :: l)) no)
   | none => no) tab
def b1n (k : Nat) : (List Pth → α) → α := Nat.rec (motive := fun _ => (List Pth → α) → α) (fun K => K []) (fun n ih K => dD (cM n) fun p => ih fun l => K (p :: l)) k
def b7u {β : Type} (l : List β) : List β → (List β → α) → α := List.rec (motive := fun _ => List β → (List β → α) → α) (fun a K => K a) (fun x _ ih a K => ih (x :: a) K) l
def a6Z (k : Nat) (K : List Pth → α) : α := b1n k fun l => b7u l [] K
def oS (k : Nat) (l : List Tmp) : (List Pth → α) → α → α := List.rec (motive := fun _ => (List Pth → α) → α → α) (fun K _ => K []) (fun t _ ih K no => fH (Nat.blt t k) no (dD (cM t) fun p => ih (fun l => K (p :: l)) no)) l
def eT (P : Program) (k : Nat) (c : Code) : (LCode → α) → α := Code.rec (motive := fun _ => (LCode → α) → α)
 (fun K => K .skip)
 (fun _ ops d K => Bool.rec (motive := fun _ => α) (mP P k ops ops.toList (fun l => K (.reg l)) (K .bad))
   (match eS P ops with
     | some [] => mP P k ops ops.toList (fun l => K (.reg l)) (K .bad)
     | some tab => mP P k ops ops.toList (fun l => lG P k ops ops.size tab (fun t => K (.drw l t)) (K .bad)) (K .bad)
     | none => K .bad) d)
 (fun _ _ iha ihb K => iha fun a => ihb fun b => K (.seq a b))
 (fun c _ _ ihx ihy K => fH (aM c) (K .bad) (dI c fun c => ihx fun x => ihy fun y => K (.cond c x y)))
 (fun id _ ih K => bY id fun id => ih fun b => K (.block id b))
 (fun _ ih K => ih fun b => K (.loop b))
 (fun g ps assign body iha ihb K => fH (aM g) (K .bad) (dI g fun g' => a6Z k fun pp => oS k ps.toList (fun q => iha fun a => ihb fun b => K (.range g' pp q ps assign body a b)) (K .bad)))
 (fun id K => bY id fun id => K (.exit id))
 (fun _ _ K => K .bad)
 (fun _ K => K .skip)
 (fun _ K => K .bad)
 (fun K => K .ret)
 (fun _ K => K .bad) c
def sG (P : Program) (l : List ResultVar) : (List LRes → α) → α → α := List.rec (motive := fun _ => (List LRes → α) → α → α) (fun K _ => K [])
 (fun r _ ih K no => match r with
   | .tmp t => dD (cM t) fun p => ih (fun l => K (.t p :: l)) no
   | .cell a t => match bJ P t with
     | some true => xT (aE P t) no fun n => dD (cM a) fun p => ih (fun l => K (.cn n p :: l)) no
     | some false => dD (cM a) fun p => ih (fun l => K (.c1 p :: l)) no
     | none => no) l
def uW (P : Program) (f : FuncId) (no : α) (K : LFunc → α) : α := match P.funcs[f]? with
 | some fn => match fn.body with
   | some c => fH (fn.name == "runtime.NumGoroutine") (sG P fn.results.toList (fun res => a6Z fn.ntmps fun ps => eT P fn.ntmps c fun b => K ⟨ps, b, res⟩) no) no
   | none => no
 | none => no
def lF (P : Program) (fs : List FuncId) : LT → (LT → α) → α := List.rec (motive := fun _ => LT → (LT → α) → α) (fun T K => K T)
 (fun f _ ih T K => uW P f (ih T K) fun g => dD (cM f) fun p => jS g p T fun T => ih T K) fs
end
end
end Go.Ds
namespace Go.Ds
section
variable {α : Type}
theorem nG (f k : Nat) : a0f (f + 1) (k + 1) = if k % 2 = 0 then .l (a0f f (k / 2)) else .r (a0f f (k / 2)) := by
 show Bool.rec (motive := fun _ => Pth) (.r (a0f f (k / 2))) (.l (a0f f (k / 2))) (Nat.beq (k % 2) 0) = _
 by_cases h : k % 2 = 0
 ·rw [if_pos h, h]; rfl
 ·rw [if_neg h]
  have : Nat.beq (k % 2) 0 = false := Bool.eq_false_iff.2 fun e => h (Nat.eq_of_beq_eq_true e)
  rw [this]
theorem yN (f : Nat) : a0f f 0 = .z := by cases f <;> rfl
theorem wV : ∀ (f g a b : Nat), a ≤ f → b ≤ g → a0f f a = a0f g b → a = b
 | _, _, 0, 0, _, _, _ => rfl
 | 0, _, a + 1, _, h, _, _ => by omega
 | _, 0, _, b + 1, _, h, _ => by omega
 | f, g + 1, 0, b + 1, _, _, h => by
   rw [yN, nG] at h
   split at h <;> cases h
 | f + 1, g, a + 1, 0, _, _, h => by
   rw [yN, nG] at h
   split at h <;> cases h
 | f + 1, g + 1, a + 1, b + 1, ha, hb, h => by
   rw [nG, nG] at h
   by_cases h1 : a % 2 = 0
   ·rw [if_pos h1] at h
    by_cases h2 : b % 2 = 0
    ·rw [if_pos h2] at h
     injection h with h
     have := wV f g (a / 2) (b / 2) (by omega) (by omega) h
     omega
    ·rw [if_neg h2] at h; cases h
   ·rw [if_neg h1] at h
    by_cases h2 : b % 2 = 0
    ·rw [if_pos h2] at h; cases h
    ·rw [if_neg h2] at h
     injection h with h
     have := wV f g (a / 2) (b / 2) (by omega) (by omega) h
     omega
theorem a6m {a b : Nat} (h : cM a = cM b) : a = b := wV _ _ _ _ (Nat.le_refl _) (Nat.le_refl _) h
theorem dA (p : Pth) (K : Pth → α) : dD p K = K p := by
 induction p generalizing K with
 | z => rfl
 | l p ih => exact ih _
 | r p ih => exact ih _
theorem eM (v : Value) (K : Value → α) : fK v K = K v := by cases v <;> rfl
theorem kE (v : Value) (p : Pth) (f : Fr) (K : Fr → α) : hK v p f K = K (hK v p f fun f => f) := by
 induction p generalizing f α with
 | z => cases f <;> rfl
 | l p ih =>
   cases f with
   | e =>
     show hK v p .e (fun l => K (.n undef l .e)) = K (hK v p .e fun l => .n undef l .e)
     rw [ih, ih (K := fun l => Fr.n undef l .e)]
   | n w l r =>
     show hK v p l (fun l => K (.n w l r)) = K (hK v p l fun l => .n w l r)
     rw [ih, ih (K := fun l => Fr.n w l r)]
 | r p ih =>
   cases f with
   | e =>
     show hK v p .e (fun l => K (.n undef .e l)) = K (hK v p .e fun l => .n undef .e l)
     rw [ih, ih (K := fun l => Fr.n undef .e l)]
   | n w l r =>
     show hK v p r (fun r => K (.n w l r)) = K (hK v p r fun r => .n w l r)
     rw [ih, ih (K := fun r => Fr.n w l r)]
theorem mC (p : Pth) : fI p .e = undef := by
 cases p <;> rfl
theorem a8u (v : Value) (p q : Pth) (f : Fr) : (q = p → fI q (hK v p f fun f => f) = v) ∧ (q ≠ p → fI q (hK v p f fun f => f) = fI q f) := by
 induction p generalizing f q with
 | z =>
   refine ⟨fun h => ?_, fun h => ?_⟩
   ·subst h; cases f <;> rfl
   ·cases q with
    | z => exact absurd rfl h
    | l q =>
      cases f with
      | e => show fI q .e = undef; exact mC q
      | n => rfl
    | r q =>
      cases f with
      | e => show fI q .e = undef; exact mC q
      | n => rfl
 | l p ih =>
   have h1 : ∀ f, hK v (.l p) f (fun f => f) = match f with | .e => .n undef (hK v p .e fun f => f) .e | .n w l r => .n w (hK v p l fun f => f) r := fun f => by
    cases f with
    | e => exact kE v p .e fun l => Fr.n undef l .e
    | n w l r => exact kE v p l fun l => Fr.n w l r
   rw [h1]
   cases q with
   | z => exact ⟨fun h => (nomatch h), fun _ => by cases f <;> rfl⟩
   | r q =>
     refine ⟨fun h => (nomatch h), fun _ => ?_⟩
     cases f with
     | e => show fI q .e = undef; exact mC q
     | n => rfl
   | l q =>
     refine ⟨fun h => ?_, fun h => ?_⟩
     ·injection h with h
      cases f with
      | e => exact (ih q .e).1 h
      | n w l r => exact (ih q l).1 h
     ·have h : q ≠ p := fun e => h (by rw [e])
      cases f with
      | e => show fI q (hK v p .e fun f => f) = undef; rw [(ih q .e).2 h, mC]
      | n w l r => exact (ih q l).2 h
 | r p ih =>
   have h1 : ∀ f, hK v (.r p) f (fun f => f) = match f with | .e => .n undef .e (hK v p .e fun f => f) | .n w l r => .n w l (hK v p r fun f => f) := fun f => by
    cases f with
    | e => exact kE v p .e fun l => Fr.n undef .e l
    | n w l r => exact kE v p r fun r => Fr.n w l r
   rw [h1]
   cases q with
   | z => exact ⟨fun h => (nomatch h), fun _ => by cases f <;> rfl⟩
   | l q =>
     refine ⟨fun h => (nomatch h), fun _ => ?_⟩
     cases f with
     | e => show fI q .e = undef; exact mC q
     | n => rfl
   | r q =>
     refine ⟨fun h => ?_, fun h => ?_⟩
     ·injection h with h
      cases f with
      | e => exact (ih q .e).1 h
      | n w l r => exact (ih q r).1 h
     ·have h : q ≠ p := fun e => h (by rw [e])
      cases f with
      | e => show fI q (hK v p .e fun f => f) = undef; rw [(ih q .e).2 h, mC]
      | n w l r => exact (ih q r).2 h
def FAg (f : Fr) (l : List Value) : Prop := ∀ t, fI (cM t) f = get l t
def FRel (k : Nat) (f : Fr) (l : List Value) : Prop := l.length = k ∧ FAg f l
noncomputable def b0F (f : Fr) (t : Tmp) (v : Value) : Fr := hK v (cM t) f fun f => f
theorem yJ (f : Fr) (t u : Tmp) (v : Value) : fI (cM u) (b0F f t v) = if u = t then v else fI (cM u) f := by
 have h := a8u v (cM t) (cM u) f
 by_cases he : u = t
 ·rw [if_pos he]; exact h.1 (by rw [he])
 ·rw [if_neg he]; exact h.2 (fun e => he (a6m e))
theorem FRel.put {k : Nat} {f : Fr} {l : List Value} (h : FRel k f l) {t : Tmp} (ht : t < k) (v : Value) : FRel k (b0F f t v) (Go.Ds.put l (some t) v) := by
 refine ⟨by simp [Go.Ds.put, eO, h.1], fun u => ?_⟩
 rw [yJ, a6D]
 by_cases he : u = t
 ·subst he; rw [if_pos rfl, if_pos ⟨rfl, by rw [h.1]; exact ht⟩]
 ·rw [if_neg he, if_neg (fun hh => he (Option.some.inj hh.1).symm)]; exact h.2 u
theorem FRel.set {k : Nat} {f : Fr} {l : List Value} (h : FRel k f l) {t : Tmp} (ht : t < k) (v : Value) : FRel k (b0F f t v) (l.set t v) := by
 have := h.put ht v
 simpa [Go.Ds.put, eO] using this
def Rs.Is (r : Rs) (v : Value) (H : Heap) : Prop := r = .ok v H ∨ r = .th v H
theorem Rs.no_is {v : Value} {H : Heap} : ¬ Rs.no.Is v H := by rintro (h | h) <;> cases h
theorem Rs.ok_is {v w : Value} {H H1 : Heap} (h : (Rs.ok v H).Is w H1) : w = v ∧ H1 = H := by
 rcases h with h | h
 ·injection h with a b; exact ⟨a.symm, b.symm⟩
 ·cases h
theorem Rs.th_is {v w : Value} {H H1 : Heap} (h : (Rs.th v H).Is w H1) : w = v ∧ H1 = H := by
 rcases h with h | h
 ·cases h
 ·injection h with a b; exact ⟨a.symm, b.symm⟩
theorem cE (b : Bool) (no x : α) : fH b no x = if b = true then x else no := by cases b <;> rfl
theorem cV {b : Bool} {x : Rs} {v : Value} {H : Heap} (h : (fH b Rs.no x).Is v H) : b = true ∧ x.Is v H := by
 cases b with
 | false => exact absurd h Rs.no_is
 | true => exact ⟨rfl, h⟩
theorem pL {β : Type} : ∀ (cs : List β) (e : Nat), a1z cs e = decide (e ≤ cs.length)
 | [], 0 => rfl
 | [], e + 1 => by simp; rfl
 | _ :: _, 0 => rfl
 | _ :: cs, e + 1 => by show a1z cs e = _; rw [pL cs e]; simp
theorem qA {β : Type} : ∀ (cs : List β) (e : Nat), yU cs e = decide (e = cs.length)
 | [], 0 => rfl
 | [], e + 1 => by simp; rfl
 | _ :: _, 0 => by simp; rfl
 | _ :: cs, e + 1 => by show yU cs e = _; rw [qA cs e]; simp
theorem qF {β : Type} : ∀ (cs : List β) (e : Nat), tG cs e = cs[e]?
 | [], _ => rfl
 | _ :: _, 0 => rfl
 | _ :: cs, e + 1 => by show tG cs e = _; rw [qF cs e]; simp
theorem a1B {β : Type} : ∀ (cs : List β) (e : Nat), a6R cs e = cs.drop e
 | [], e => by cases e <;> rfl
 | _ :: _, 0 => rfl
 | _ :: cs, e + 1 => by show a6R cs e = _; rw [a1B cs e]; rfl
theorem a2C {β : Type} : ∀ {cs : List β} {n : Nat} {K : List β → Rs} {v : Value} {H : Heap}, (uE cs n K).Is v H → n ≤ cs.length ∧ (K (cs.take n)).Is v H
 | [], 0, K, v, H, h => ⟨Nat.le_refl _, h⟩
 | [], n + 1, K, v, H, h => absurd h Rs.no_is
 | _ :: _, 0, K, v, H, h => ⟨Nat.zero_le _, h⟩
 | c :: cs, n + 1, K, v, H, h => by
   have h' : (uE cs n fun l => K (c :: l)).Is v H := h
   obtain ⟨h1, h2⟩ := a2C h'
   exact ⟨by simp; omega, h2⟩
theorem b3C {a b : IntKind} (h : Nat.beq (kIx a) (kIx b) = true) : a = b := by
 cases a <;> cases b <;> first | rfl | (exact absurd h (by decide))
theorem a9J (k : Nat) (K : List Pth → α) : b1n k K = K ((List.range k).map cM).reverse := by
 induction k generalizing K with
 | zero => rfl
 | succ n ih =>
   show dD (cM n) (fun p => b1n n fun l => K (p :: l)) = _
   rw [dA, ih, List.range_succ]
   simp
theorem b5h {β : Type} (l : List β) : ∀ (a : List β) (K : List β → α), b7u l a K = K (l.reverse ++ a) := by
 induction l with
 | nil => intro a K; rfl
 | cons x l ih => intro a K; show b7u l (x :: a) K = _; rw [ih]; simp
theorem a6l (k : Nat) (K : List Pth → α) : a6Z k K = K ((List.range k).map cM) := by
 unfold a6Z; rw [a9J, b5h]; simp
theorem gL (n : Nat) (d : α) (K : Nat → α) : xT (some n) d K = K n := bR n K
def LK (H H' : Heap) : Prop := H.length ≤ H'.length ∧ ∀ A r', A < H.length → aQ H' A = some (.loop r') →
 ∃ r, aQ H A = some (.loop r) ∧ r'.assign = r.assign ∧ r'.body = r.body ∧ r'.params = r.params ∧ r'.tmps = r.tmps
theorem LK.refl (H : Heap) : LK H H := ⟨Nat.le_refl _, fun _ r _ h => ⟨r, h, rfl, rfl, rfl, rfl⟩⟩
theorem LK.trans {H H1 H2 : Heap} (h : LK H H1) (k : LK H1 H2) : LK H H2 := ⟨Nat.le_trans h.1 k.1, fun A r' hA hr => by
 obtain ⟨r1, h1, a1, b1, c1, d1⟩ := k.2 A r' (Nat.lt_of_lt_of_le hA h.1) hr
 obtain ⟨r, h2, a2, b2, c2, d2⟩ := h.2 A r1 hA h1
 exact ⟨r, h2, a1.trans a2, b1.trans b2, c1.trans c2, d1.trans d2⟩⟩
def Blk.isLoop : Blk → Bool
 | .loop _ => true
 | _ => false
theorem LK.hset (H : Heap) (A : Nat) {b : Blk} (hb : b.isLoop = false) : LK H (hset H A b) := by
 refine ⟨by rw [bI]; exact Nat.le_refl _, fun B r' hB h => ?_⟩
 by_cases he : A = B
 ·subst he; rw [aO _ hB] at h; injection h with h; subst h; cases hb
 ·rw [aW _ he] at h; exact ⟨r', h, rfl, rfl, rfl, rfl⟩
theorem LK.cons (H : Heap) (b : Blk) : LK H (H.cons b) := by
 refine ⟨by rw [length_cons]; omega, fun B r' hB h => ?_⟩
 rw [bO b hB] at h; exact ⟨r', h, rfl, rfl, rfl, rfl⟩
theorem LK.row (H : Heap) (ty : TypeId) (cs : List Value) : LK H (jX H ty cs) := by rw [dM]; exact .cons _ _
theorem LK.loop {H : Heap} {L : Nat} {r r' : Loop} (h : aQ H L = some (.loop r)) (e : r'.assign = r.assign ∧ r'.body = r.body ∧ r'.params = r.params ∧ r'.tmps = r.tmps) : LK H (Go.Ds.hset H L (.loop r')) := by
 refine ⟨by rw [bI]; exact Nat.le_refl _, fun B r2 hB hg => ?_⟩
 by_cases he : L = B
 ·subst he; rw [aO _ hB] at hg; injection hg with hg; injection hg with hg; subst hg; exact ⟨r, h, e⟩
 ·rw [aW _ he] at hg; exact ⟨r2, hg, rfl, rfl, rfl, rfl⟩
variable {P : Program}
theorem a1F {H H' : Heap} {t : TypeId} {p v : Value} (h : jD P H t p v = some H') : LK H H' := by
 unfold jD at h
 split at h
 ·split at h
  ·dsimp only at h
   split at h
   ·injection h with h; subst h; exact .hset _ _ rfl
   ·cases h
  ·cases h
 ·cases h
theorem yY {H H' : Heap} {t : TypeId} {v r : Value} (h : oU P H t v = some (r, H')) : LK H H' := by
 unfold oU at h
 dsimp only at h
 split at h
 ·injection h with h; injection h with _ h; subst h; exact .row _ _ _
 ·cases h
theorem a0j {H H' : Heap} {t : TypeId} {s x r : Value} (h : fC P H t s x = some (r, H')) : LK H H' := by
 unfold fC at h
 simp only [Option.bind_eq_some_iff] at h
 obtain ⟨elem, _, size, _, bytes, _, z, _, ⟨n, l⟩, _, h⟩ := h
 try dsimp only at h
 split at h
 ·split at h
  ·split at h
   ·injection h with h; injection h with _ h; subst h; exact .refl _
   ·injection h with h; injection h with _ h; subst h; exact .row _ _ _
  ·cases h
 ·split at h
  ·split at h
   ·injection h with h; injection h with _ h; subst h; exact .hset _ _ rfl
   ·split at h
    ·injection h with h; injection h with _ h; subst h; exact .hset _ _ rfl
    ·cases h
  ·cases h
 ·cases h
theorem a2o {H H' : Heap} {t : TypeId} {v r : Value} (h : jA P H t v = some (r, H')) : LK H H' := by
 unfold jA at h
 split at h
 ·dsimp only at h
  rename_i n elem _
  have key : ∀ (b : Bool), (if b = true then some (Value.pointer (some ⟨H.length, 0, some v.cells.toList.length⟩), b1V H elem v.cells.toList) else none) = some (r, H') → LK H H' := by
   intro b h
   cases b
   ·cases h
   ·injection h with h; injection h with _ h; subst h; rw [tO]; exact .cons _ _
  exact key _ h
 ·exact yY h
theorem a0p {H H' : Heap} {t : TypeId} {x y r : Value} (h : nI P H t x y = some (r, H')) : LK H H' := by
 unfold nI at h
 split at h
 ·split at h
  ·split at h
   ·simp only [Option.map_eq_some_iff] at h
    obtain ⟨_, _, h⟩ := h
    injection h with _ h; subst h; exact .hset _ _ rfl
   ·cases h
  ·cases h
 ·cases h
theorem a0e {H H' : Heap} {k : FuncId} {args : List Value} {r : Value} (h : iD P k args H = some (r, H')) : LK H H' := by
 unfold iD at h
 simp only [Option.bind_eq_some_iff] at h
 obtain ⟨fn, _, h⟩ := h
 split at h
 case isFalse => cases h
 split at h
 ·split at h
  ·injection h with h; injection h with _ h; subst h; exact .refl _
  ·cases h
 split at h
 ·split at h
  ·split at h
   ·simp only [Option.bind_eq_some_iff] at h
    obtain ⟨_, _, h⟩ := h
    split at h
    ·injection h with h; injection h with _ h; subst h; exact .row _ _ _
    ·cases h
   ·cases h
  ·cases h
 split at h
 ·split at h
  ·split at h
   ·split at h
    ·injection h with h; injection h with _ h; subst h; exact .refl _
    ·cases h
   ·cases h
  ·cases h
 ·cases h
theorem a5G {H H' : Heap} {t : TypeId} {s x r : Value} (h : sI P H t s x = some (r, H')) : LK H H' := by
 unfold sI at h
 simp only [Option.bind_eq_some_iff] at h
 obtain ⟨elem, _, size, _, m, _, h⟩ := h
 try dsimp only at h
 split at h
 ·split at h
  ·injection h with h; injection h with _ h; subst h; exact .refl _
  ·cases h
 ·split at h
  ·injection h with h; injection h with _ h; subst h; exact .refl _
  ·simp only [Option.bind_eq_some_iff] at h
   obtain ⟨l, _, h⟩ := h
   split at h
   ·split at h
    ·injection h with h; injection h with _ h; subst h; exact .hset _ _ rfl
    ·cases h
   ·cases h
 ·cases h
theorem a1m {H H' : Heap} {t : TypeId} {x r : Value} (h : kJ P H t x = some (r, H')) : LK H H' := by
 unfold kJ at h
 simp only [Option.bind_eq_some_iff] at h
 obtain ⟨elem, _, z, _, h⟩ := h
 split at h
 ·injection h with h; injection h with _ h; subst h; exact .refl _
 ·split at h
  ·injection h with h; injection h with _ h; subst h; exact .refl _
  ·try dsimp only at h
   split at h
   ·split at h
    ·injection h with h; injection h with _ h; subst h; exact .hset _ _ rfl
    ·cases h
   ·cases h
 ·cases h
theorem a7V {H H' : Heap} {t : TypeId} {m k v : Value} (h : tI P H t m k v = some H') : LK H H' := by
 unfold tI at h
 simp only [Option.bind_eq_some_iff] at h
 obtain ⟨⟨kt, et⟩, _, h⟩ := h
 dsimp only at h
 split at h
 ·split at h
  ·split at h
   ·simp only [Option.bind_eq_some_iff] at h
    obtain ⟨r, _, h⟩ := h
    split at h
    ·simp only [Option.bind_eq_some_iff] at h
     obtain ⟨e, _, h⟩ := h
     split at h
     ·injection h with h; subst h; exact .hset _ _ rfl
     ·cases h
    ·injection h with h; subst h; exact .hset _ _ rfl
   ·cases h
  ·cases h
 ·cases h
theorem xJ {H H' : Heap} {t : TypeId} {o : Option Value} {r : Value} (h : gV P H t o = some (r, H')) : LK H H' := by
 unfold gV at h
 simp only [Option.bind_eq_some_iff] at h
 obtain ⟨_, _, h⟩ := h
 split at h
 ·injection h with h; injection h with _ h; subst h; exact .cons _ _
 ·injection h with h; injection h with _ h; subst h; exact .cons _ _
 ·cases h
theorem a2K {H H' : Heap} {o : Oper} {l : List Value} {r : Value} (h : cJ P o l H = some (r, H')) : H' = H := by
 unfold cJ at h
 split at h
 ·split at h
  ·split at h
   ·injection h with h; injection h with _ h; exact h.symm
   ·cases h
  ·cases h
 ·cases h
theorem nF {H H' : Heap} {v r : Value} (h : some (v, H) = some (r, H')) : LK H H' := by injection h with h; injection h with _ h; subst h; exact .refl _
theorem mL {H H' : Heap} {v : Option Value} {r : Value} (h : v.map (fun v => (v, H)) = some (r, H')) : LK H H' := by
 cases v with
 | none => cases h
 | some v => exact nF h
set_option maxHeartbeats 1000000 in
theorem a9L {H H' : Heap} {o : Oper} {l : List Value} {r : Value} (h : opD P o l H = some (r, H')) : LK H H' := by
 obtain ⟨dst, op, type, pos, after, guard⟩ := o
 have pl : ∀ {o : Oper}, cJ P o l H = some (r, H') → LK H H' := fun h => by rw [a2K h]; exact .refl _
 cases op with
 | alloc t =>
   simp only [opD, Option.bind_eq_some_iff] at h
   obtain ⟨z, _, h⟩ := h
   split at h
   ·exact a2o h
   ·cases h
 | box t x => simp only [opD] at h; exact yY h
 | store t x y =>
   simp only [opD, Option.map_eq_some_iff] at h
   obtain ⟨H1, h, e⟩ := h
   injection e with _ e; subst e
   exact a1F h
 | mapUpdate t m x y =>
   simp only [opD, Option.map_eq_some_iff] at h
   obtain ⟨H1, h, e⟩ := h
   injection e with _ e; subst e
   exact a7V h
 | makeMap t x => simp only [opD] at h; exact xJ h
 | buildSlice t len parts =>
   simp only [opD, Option.bind_eq_some_iff] at h
   obtain ⟨elem, _, size, _, z, _, h⟩ := h
   split at h
   ·injection h with h; injection h with _ h; subst h; exact .row _ _ _
   split at h
   ·simp only [Option.map_eq_some_iff] at h
    obtain ⟨cs, _, e⟩ := h
    injection e with _ e; subst e
    exact .row _ _ _
   ·cases h
 | makeSlice t n c =>
   simp only [opD, Option.bind_eq_some_iff] at h
   obtain ⟨elem, _, size, _, bytes, _, z, _, h⟩ := h
   split at h
   ·split at h
    ·injection h with h; injection h with _ h; subst h; exact .row _ _ _
    ·cases h
   ·cases h
 | call c =>
   simp only [opD] at h
   split at h
   ·split at h
    ·split at h
     all_goals first | exact mL h | cases h
    ·cases h
   ·split at h
    ·exact a0j h
    ·cases h
   ·split at h
    ·exact a5G h
    ·cases h
   ·split at h
    ·exact a1m h
    ·cases h
   ·exact pl h
   ·split at h
    ·split at h
     ·split at h
      ·cases h
      ·exact nF h
     ·cases h
    ·cases h
   ·split at h
    ·exact a0p h
    ·cases h
   ·exact pl h
   ·exact pl h
   ·cases h
 | convert s t x =>
   simp only [opD] at h
   split at h
   ·exact pl h
   ·split at h
    ·split at h
     ·exact mL h
     ·cases h
    ·split at h
     ·simp only [Option.bind_eq_some_iff] at h
      obtain ⟨_, _, h⟩ := h
      injection h with h; injection h with _ h; subst h
      rw [a6z]; exact .cons _ _
     ·cases h
    ·split at h
     ·exact nF h
     ·cases h
    ·cases h
 | slice t x lo hi mx =>
   cases mx with
   | some _ => simp only [opD] at h; cases h
   | none =>
     simp only [opD] at h
     split at h
     ·exact pl h
     ·split at h
      ·exact mL h
      ·exact mL h
 | _ =>
   simp only [opD] at h
   repeat' first
    | exact LK.refl _
    | exact nF h
    | exact mL h
    | exact pl h
    | (cases h; done)
    | split at h
    | (simp only [Option.bind_eq_some_iff, Option.map_eq_some_iff] at h; obtain ⟨_, _, h⟩ := h)
    | (obtain ⟨_, _, h⟩ := h)
    | (injection h with h; injection h with _ h; subst h; exact LK.refl _)
    | (injection h with _ h; subst h; exact LK.refl _)
    | (cases h; exact LK.refl _)
end
end Go.Ds
namespace Go.Ds
variable {P : Program}
structure CallsOk (P : Program) (C : Calls') (H0 : Heap) : Prop where
 fn : ∀ p f args H v H1, LK H0 H → (C.fn p f args H).Is v H1 → p = cM f → (FnS P f args H (fun v' H' => v' = v ∧ H' = H1) ∨ iD P f args H = some (v, H1)) ∧ LK H H1
 rd : ∀ L args H v H1, LK H0 H → (C.rd L args H).Is v H1 → pJ P L args H v H1 ∧ LK H H1
noncomputable def aT (x : Operand) : LArg := match x with
 | .tmp t => .t (cM t)
 | .const v => .c v
 | .global g => .c (.pointer (some ⟨g, 0, none⟩))
 | .func k => .c (.func (.func k) #[] #[])
theorem cS {α : Type} (x : Operand) (K : LArg → α) : dI x K = K (aT x) := by
 cases x with
 | tmp t => exact dA _ _
 | _ => rfl
theorem bM {f : Fr} {l : List Value} (h : FAg f l) (x : Operand) : eE f (aT x) = ev l x := by
 cases x with
 | tmp t => exact h t
 | _ => rfl
theorem zU {α : Type} (l : List Operand) (K : List LArg → α) : a0w l K = K (l.map aT) := by
 induction l generalizing K with
 | nil => rfl
 | cons x l ih =>
   show dI x (fun x => a0w l fun l => K (x :: l)) = _
   rw [cS, ih]; rfl
theorem a2A {α : Type} {f : Fr} {l : List Value} (h : FAg f l) (xs : List Operand) (K : List Value → α) : zV f (xs.map aT) K = K (xs.map (ev l)) := by
 induction xs generalizing K with
 | nil => rfl
 | cons x xs ih =>
   show fK (eE f (aT x)) (fun v => zV f (xs.map aT) fun l => K (v :: l)) = _
   rw [eM, ih, bM h]; rfl
theorem b8n {f : Fr} {l : List Value} (h : FAg f l) : evF f = ev l := by
 funext x
 cases x with
 | tmp t => exact h t
 | _ => rfl
def nN (P : Program) (o : Oper) (lo : LOp) : Prop := ∀ C H0 f l H v H1, CallsOk P C H0 → LK H0 H → FAg f l → (xP P C lo f H).Is v H1 → StepR P o l H v H1 ∧ LK H H1
def LowPl (P : Program) (o : Oper) (lo : LOp) : Prop := ∀ C f l H v H1, FAg f l → (xP P C lo f H).Is v H1 → opD P o l H = some (v, H1)
theorem LowPl.low {o : Oper} {lo : LOp} (hok : o.op.operands.toList.all aM = true) (h : LowPl P o lo) : nN P o lo :=
 fun C _ f l H v H1 _ _ hf hr => by have := h C f l H v H1 hf hr; exact ⟨.op hok this, a9L this⟩
theorem b2M (o : Oper) : nN P o .bad := fun _ _ _ _ _ _ _ _ _ _ h => absurd h Rs.no_is
theorem b4h (o : Oper) : LowPl P o (.gen o) := fun C f l H v H1 hf hr => by
 have hr : (match b8g P o (evF f) H with | some (v, H1) => Rs.th v H1 | none => .no).Is v H1 := hr
 rw [b8n hf] at hr
 have e : b8g P o (ev l) H = opD P o l H := rfl
 rw [e] at hr
 split at hr
 ·rename_i v2 H2 h2
  obtain ⟨rfl, rfl⟩ := Rs.th_is hr
  exact h2
 ·exact absurd hr Rs.no_is
section
variable {dst : Option Tmp} {type : TypeId} {pos : String} {after : Array Edge} {guard : Option (Nat × Bool)}
theorem b7T (x : Operand) : LowPl P ⟨dst, .move x, type, pos, after, guard⟩ (.mv (aT x)) := fun C f l H v H1 hf hr => by
 have hr : (fK (eE f (aT x)) fun v => Rs.ok v H).Is v H1 := hr
 rw [eM, bM hf] at hr
 obtain ⟨rfl, rfl⟩ := Rs.ok_is hr
 rfl
theorem b7M (x : Operand) : LowPl P ⟨dst, .assign x, type, pos, after, guard⟩ (.mv (aT x)) := fun C f l H v H1 hf hr => by
 have hr : (fK (eE f (aT x)) fun v => Rs.ok v H).Is v H1 := hr
 rw [eM, bM hf] at hr
 obtain ⟨rfl, rfl⟩ := Rs.ok_is hr
 rfl
theorem b0b (c a b : Operand) : LowPl P ⟨dst, .pick c a b, type, pos, after, guard⟩ (.pick (aT c) (aT a) (aT b)) := fun C f l H v H1 hf hr => by
 have hr : (b0o (aT c) (aT a) (aT b) f H).Is v H1 := hr
 unfold b0o at hr
 rw [bM hf] at hr
 split at hr
 ·rename_i t ht
  rw [eM] at hr
  simp only [opD, ht]
  cases t
  ·have hr : (Rs.ok (eE f (aT b)) H).Is v H1 := hr
   rw [bM hf] at hr
   obtain ⟨rfl, rfl⟩ := Rs.ok_is hr; rfl
  ·have hr : (Rs.ok (eE f (aT a)) H).Is v H1 := hr
   rw [bM hf] at hr
   obtain ⟨rfl, rfl⟩ := Rs.ok_is hr; rfl
 ·exact absurd hr Rs.no_is
theorem b2u (a b : Int) : b9t a b = a * b := by cases a <;> cases b <;> rfl
theorem zZ (a b : Int) : b9C a b = a.tdiv b := by cases a <;> cases b <;> rfl
theorem a0O (a b : Int) : b9W a b = a.tmod b := by cases a <;> cases b <;> rfl
theorem b3M {op : BinOp} {g : IntKind → Int → Int → Option Value} (h : b2C op = some g) (k : IntKind) (a b : Int) : eF op k a b = g k a b := by
 cases op <;> simp only [b2C] at h <;> first | (cases h; done) | (injection h with h; subst h)
 all_goals first
  | rfl
  | (simp only [eF, c1I, b2u]; done)
  | (simp only [eF, b3a, zZ]; done)
  | (simp only [eF, b3k, a0O]; done)
  | (simp only [eF, b3a, zZ]; rfl)
  | (simp only [eF, b3k, a0O]; rfl)
  | (simp only [eF, b3a, zZ]; cases eqI b 0 <;> rfl)
  | (simp only [eF, b3k, a0O]; cases eqI b 0 <;> rfl)
theorem c1D {o : Option Value} {H H1 : Heap} {v : Value} (h : (oV o H).Is v H1) : o = some v ∧ H1 = H := by
 cases o with
 | none => exact absurd h Rs.no_is
 | some w => obtain ⟨rfl, rfl⟩ := Rs.th_is h; exact ⟨rfl, rfl⟩
theorem b0v {o : Option Value} {H H1 : Heap} {v : Value} (h : (okV o H).Is v H1) : o = some v ∧ H1 = H := by
 cases o with
 | none => exact absurd h Rs.no_is
 | some w =>
   have h : (fK w fun v => Rs.ok v H).Is v H1 := h
   rw [eM] at h
   obtain ⟨rfl, rfl⟩ := Rs.ok_is h; exact ⟨rfl, rfl⟩
theorem b3A {op : BinOp} {g : IntKind → Int → Int → Option Value} (hg : b2C op = some g) (t yt : TypeId) (x y : Operand) : LowPl P ⟨dst, .binOp op t x y yt, type, pos, after, guard⟩ (.bin g (aT x) (aT y)) := fun C f l H v H1 hf hr => by
 have hr : (b8s g (aT x) (aT y) f H).Is v H1 := hr
 unfold b8s at hr
 rw [bM hf] at hr
 split at hr
 ·rename_i k a hx
  unfold b6a at hr
  rw [bM hf] at hr
  split at hr
  ·rename_i k' b hy
   obtain ⟨hk, hq⟩ := cV hr
   obtain rfl := b3C hk
   obtain ⟨hv, rfl⟩ := c1D hq
   rw [← b3M hg] at hv
   have : opD P ⟨dst, .binOp op t x y yt, type, pos, after, guard ⟩ l H1 = if k = k then (match eF op k a b with | some v => some (v, H1) | none => cJ P ⟨dst, .binOp op t x y yt, type, pos, after, guard ⟩ l H1) else cJ P ⟨dst, .binOp op t x y yt, type, pos, after, guard ⟩ l H1 := by
    simp only [opD, hx, hy]
    cases op <;> rfl
   rw [this, if_pos rfl, hv]
  ·exact absurd hr Rs.no_is
 ·exact absurd hr Rs.no_is
theorem b2x {b : Option Blk} {i e : Nat} {H H1 : Heap} {v : Value} (h : (b3h b i e H).Is v H1) : H1 = H ∧ ∃ cs ty rw lo ver, b = some (.cells cs ty rw lo ver) ∧ lo ≤ e ∧ e ≤ cs.length ∧ i + 1 ≤ e ∧ cs[i]? = some v := by
 unfold b3h at h
 split at h
 ·rename_i cs ty rw lo ver
  obtain ⟨h1, h⟩ := cV h
  obtain ⟨h2, h⟩ := cV h
  obtain ⟨h3, h⟩ := cV h
  have h : (okV (tG cs i) H).Is v H1 := h
  obtain ⟨h4, h5⟩ := b0v h
  rw [pL] at h2
  rw [qF] at h4
  exact ⟨h5, cs, ty, rw, lo, ver, rfl, Nat.le_of_ble_eq_true h1, by simpa using h2, Nat.le_of_ble_eq_true h3, h4⟩
 ·exact absurd h Rs.no_is
theorem b3P {b : Option Blk} {n i e : Nat} {H H1 : Heap} {v : Value} (h : (b3o b n i e H).Is v H1) : H1 = H ∧ ∃ cs ty rw lo ver, b = some (.cells cs ty rw lo ver) ∧ lo ≤ e ∧ e ≤ cs.length ∧ i + n ≤ e ∧ v = .agg ((cs.drop i).take n).toArray := by
 unfold b3o at h
 split at h
 ·rename_i cs ty rw lo ver
  obtain ⟨h1, h⟩ := cV h
  obtain ⟨h2, h⟩ := cV h
  obtain ⟨h3, h⟩ := cV h
  obtain ⟨h4, h⟩ := a2C h
  obtain ⟨rfl, rfl⟩ := Rs.ok_is h
  rw [pL] at h2
  exact ⟨rfl, cs, ty, rw, lo, ver, rfl, Nat.le_of_ble_eq_true h1, by simpa using h2, Nat.le_of_ble_eq_true h3, by rw [a1B]⟩
 ·exact absurd h Rs.no_is
theorem a6y {X : LArg} {f : Fr} {H H1 : Heap} {v w : Value} {t : TypeId} (ht : bJ P t = some false) (hw : eE f X = w) (h : (a8W X f H).Is v H1) : H1 = H ∧ dH P H t w = some v := by
 unfold a8W at h
 rw [hw] at h
 split at h
 ·rename_i A i e
  obtain ⟨h1, cs, ty, rw', lo, ver, h2, h3, h4, h5, h6⟩ := b2x h
  refine ⟨h1, ?_⟩
  simp only [dH, ht, bA, h2]
  rw [if_pos (by simp; omega)]
  simp [h6]
 ·rename_i A i
  unfold b7a at h
  split at h
  ·rename_i cs ty lo hg
   obtain ⟨h1, h⟩ := cV h
   rw [pL] at h1
   have h1 : lo ≤ cs.length := by simpa using h1
   cases hn : tG cs i with
   | none => rw [hn] at h; exact absurd h Rs.no_is
   | some c =>
     rw [hn] at h
     have h : (fK c fun v => Rs.ok v H).Is v H1 := h
     rw [eM] at h
     obtain ⟨rfl, rfl⟩ := Rs.ok_is h
     rw [qF] at hn
     have hi := (List.getElem?_eq_some_iff.1 hn).1
     refine ⟨rfl, ?_⟩
     simp only [dH, ht, bA, hg]
     rw [if_pos (by simp; omega)]
     simp [hn]
  ·exact absurd h Rs.no_is
 ·exact absurd h Rs.no_is
theorem a6x {X : LArg} {f : Fr} {H H1 : Heap} {v w : Value} {t : TypeId} {n : Nat} (ht : bJ P t = some true) (hn : aE P t = some n) (hw : eE f X = w) (h : (a8N n X f H).Is v H1) : H1 = H ∧ dH P H t w = some v := by
 unfold a8N at h
 rw [hw] at h
 split at h
 ·rename_i A i e
  obtain ⟨h1, cs, ty, rw', lo, ver, h2, h3, h4, h5, h6⟩ := b3P h
  refine ⟨h1, ?_⟩
  simp only [dH, ht, hn, Option.bind_some, bA, h2]
  rw [if_pos (by simp; omega), h6]
  rfl
 ·exact absurd h Rs.no_is
theorem b2O {t : TypeId} (ht : bJ P t = some false) (x : Operand) : LowPl P ⟨dst, .load t x, type, pos, after, guard⟩ (.ld1 (aT x)) := fun C f l H v H1 hf hr => by
 obtain ⟨rfl, h⟩ := a6y (P := P) ht (bM hf x) hr
 simp only [opD, h, Option.map_some]
theorem b3R {t : TypeId} {n : Nat} (ht : bJ P t = some true) (hn : aE P t = some n) (x : Operand) : LowPl P ⟨dst, .load t x, type, pos, after, guard⟩ (.ldn n (aT x)) := fun C f l H v H1 hf hr => by
 obtain ⟨rfl, h⟩ := a6x (P := P) ht hn (bM hf x) hr
 simp only [opD, h, Option.map_some]
theorem b8y {t : TypeId} {n : Nat} (hn : aE P t = some n) (x y : Operand) : LowPl P ⟨dst, .store t x y, type, pos, after, guard⟩ (.st n (aT x) (aT y)) := fun C f l H v H1 hf hr => by
 have hr : (hSt n (aT x) (aT y) f H).Is v H1 := hr
 unfold hSt at hr
 rw [bM hf, bM hf] at hr
 split at hr
 ·rename_i A i e hx
  unfold stB at hr
  split at hr
  ·rename_i cs ty lo ver hg
   obtain ⟨h1, hr⟩ := cV hr
   obtain ⟨h2, hr⟩ := cV hr
   obtain ⟨h3, hr⟩ := cV hr
   obtain ⟨h4, hr⟩ := cV hr
   obtain ⟨h5, hr⟩ := cV hr
   obtain ⟨rfl, rfl⟩ := Rs.th_is hr
   rw [qA] at h1 h3
   have h1 : n = (ev l y).cells.toList.length := by simpa only [decide_eq_true_eq] using h1
   have h3 : e = cs.length := by simpa only [decide_eq_true_eq] using h3
   have h4 : i + n ≤ e := Nat.le_of_ble_eq_true h4
   have h5 : lo ≤ e := Nat.le_of_ble_eq_true h5
   simp only [opD, jD, hx, hg]
   rw [if_pos ⟨by rw [hn, h1], h2, h3, by omega, h5⟩]
   simp only [Option.map_some]
   rw [h3]
  ·exact absurd hr Rs.no_is
 ·exact absurd hr Rs.no_is
theorem b7P {s : TypeId} {k n : Nat} {fd : Field} (hf' : fY P s k = some fd) (hn : aE P fd.type = some n) (hn0 : n ≠ 0) (x : Operand) : LowPl P ⟨dst, .fieldAddr s x k, type, pos, after, guard⟩ (.fa fd.offset (aT x)) := fun C f l H v H1 hf hr => by
 have hr : (hFa fd.offset (aT x) f H).Is v H1 := hr
 unfold hFa at hr
 rw [bM hf] at hr
 split at hr
 ·rename_i A i e hx
  rw [bR] at hr
  obtain ⟨rfl, rfl⟩ := Rs.ok_is hr
  simp only [opD, hx, hf', Option.bind_some, hn]
  rw [if_neg (by simpa using hn0)]; rfl
 ·exact absurd hr Rs.no_is
theorem b0I {A i e size n : Nat} {H H1 : Heap} {j v : Value} (h : (ixP A i e size n H j).Is v H1) : H1 = H ∧ ∃ k m, j = .int k (.ofNat m) ∧ m < n ∧ v = .pointer (some ⟨A, i + m * size, some e⟩) := by
 unfold ixP at h
 split at h
 ·rename_i k m
  obtain ⟨h1, h⟩ := cV h
  rw [bR] at h
  obtain ⟨rfl, rfl⟩ := Rs.ok_is h
  rw [blt_eq] at h1
  exact ⟨rfl, k, m, rfl, by simpa using h1, rfl⟩
 ·exact absurd h Rs.no_is
theorem b4a {t elem : TypeId} {size : Nat} (ht : P.underlying t = some (.slice elem)) (hs : aE P elem = some size) (x i : Operand) : LowPl P ⟨dst, .indexAddr t x i, type, pos, after, guard⟩ (.ixs size (aT x) (aT i)) := fun C f l H v H1 hf hr => by
 have hr : (b8m size (aT x) (aT i) f H).Is v H1 := hr
 unfold b8m at hr
 rw [bM hf, bM hf] at hr
 split at hr
 ·rename_i A a e n c hx
  obtain ⟨rfl, k, m, hj, hm, rfl⟩ := b0I hr
  simp only [opD, ht, hx, hj, hs, Option.bind_some]
  rw [if_pos (by simp; omega)]
  rfl
 ·exact absurd hr Rs.no_is
theorem c1B (a b : Nat) : Nat.beq a b = (a == b) := by
 cases h : Nat.beq a b with
 | true => rw [Nat.eq_of_beq_eq_true h]; simp
 | false => have := Nat.ne_of_beq_eq_false h; simp [this]
theorem b8F {A i size n : Nat} {H H1 : Heap} {j v : Value} (h : (ixG A i size n H j).Is v H1) : H1 = H ∧ ∃ k m, j = .int k (.ofNat m) ∧ m < n ∧ v = .pointer (some ⟨A, i + m * size, none⟩) := by
 unfold ixG at h
 split at h
 ·rename_i k m
  obtain ⟨h1, h⟩ := cV h
  rw [bR] at h
  obtain ⟨rfl, rfl⟩ := Rs.ok_is h
  exact ⟨rfl, k, m, rfl, by simpa [Nat.blt_eq] using h1, rfl⟩
 ·exact absurd h Rs.no_is
theorem b4d {t elem : TypeId} {n size : Nat} (ht : P.underlying t = some (.array n elem)) (hs : aE P elem = some size) (x i : Operand) : LowPl P ⟨dst, .indexAddr t x i, type, pos, after, guard⟩ (.ixa n size (aT x) (aT i)) := fun C f l H v H1 hf hr => by
 have hr : (b6X n size (aT x) (aT i) f H).Is v H1 := hr
 unfold b6X at hr
 rw [bM hf, bM hf] at hr
 split at hr
 ·rename_i A a e hx
  obtain ⟨rfl, k, m, hj, hm, rfl⟩ := b0I hr
  simp only [opD, ht, hx, hj, hs, Option.bind_some]
  rw [if_pos (by simp; omega)]
  rfl
 ·rename_i A a hx
  obtain ⟨rfl, k, m, hj, hm, rfl⟩ := b8F hr
  simp only [opD, ht, hx, hj, hs, Option.bind_some]
  rw [if_pos (by simp; omega)]
  rfl
 ·exact absurd hr Rs.no_is
theorem b5o (i : Nat) (x : Operand) : LowPl P ⟨dst, .extract x i, type, pos, after, guard⟩ (.ext i (aT x)) := fun C f l H v H1 hf hr => by
 have hr : (b6J i (aT x) f H).Is v H1 := hr
 unfold b6J at hr
 rw [bM hf] at hr
 split at hr
 ·rename_i vs hx
  obtain ⟨h1, rfl⟩ := b0v hr
  rw [qF] at h1
  simp only [opD, hx]
  simp [h1]
 ·exact absurd hr Rs.no_is
theorem b2B {c : Call} {elem : TypeId} (hc : c.callee = .builtin .len) (h1 : c.args.size = 1) (h2 : c.argTypes.size = 1) (ht : P.underlying (c.argTypes.getD 0 0) = some (.slice elem)) : LowPl P ⟨dst, .call c, type, pos, after, guard⟩ (.len (aT (c.args.getD 0 (.tmp 0)))) := fun C f l H v H1 hf hr => by
 have hr : (b7o (aT (c.args.getD 0 (.tmp 0))) f H).Is v H1 := hr
 unfold b7o at hr
 rw [bM hf] at hr
 split at hr
 ·rename_i a n k hx
  obtain ⟨rfl, rfl⟩ := Rs.th_is hr
  simp only [opD, hc, h1, h2, ht, hx, oF]; rfl
 ·exact absurd hr Rs.no_is
theorem a9R {c : Call} (hc : c.callee = .builtin .len) (h1 : c.args.size = 1) (h2 : c.argTypes.size = 1) (ht : P.underlying (c.argTypes.getD 0 0) = some .string) : LowPl P ⟨dst, .call c, type, pos, after, guard⟩ (.slen (aT (c.args.getD 0 (.tmp 0)))) := fun C f l H v H1 hf hr => by
 have hr : (b1U (aT (c.args.getD 0 (.tmp 0))) f H).Is v H1 := hr
 unfold b1U at hr
 rw [bM hf] at hr
 split at hr
 ·rename_i s hx
  obtain ⟨rfl, rfl⟩ := Rs.th_is hr
  simp only [opD, hc, h1, h2, ht, hx, oF]; rfl
 ·exact absurd hr Rs.no_is
theorem b5i {c : Call} {elem : TypeId} {size bytes : Nat} {z : Value} (hc : c.callee = .builtin .append) (h1 : c.args.size = 2) (h2 : c.argTypes.size = 2) (hi : ((P.underlying (c.argTypes.getD 1 0)).map gW) = some true)
 (he : aH P (c.argTypes.getD 0 0) = some elem) (hs : aE P elem = some size) (hb : fO P elem = some bytes) (hz : aZ P elem = some z) (hzs : z.cells.size = size) (hs0 : size ≠ 0) :
 LowPl P ⟨dst, .call c, type, pos, after, guard⟩ (.app elem size bytes (aT (c.args.getD 0 (.tmp 0))) (aT (c.args.getD 1 (.tmp 0)))) := fun C f l H v H1 hf hr => by
 have hr : (b6w P elem size bytes (aT (c.args.getD 0 (.tmp 0))) (aT (c.args.getD 1 (.tmp 0))) f H).Is v H1 := hr
 unfold b6w at hr
 rw [bM hf, bM hf] at hr
 have hD : opD P ⟨dst, .call c, type, pos, after, guard⟩ l H = fC P H (c.argTypes.getD 0 0) (ev l (c.args.getD 0 (.tmp 0))) (ev l (c.args.getD 1 (.tmp 0))) := by
  simp only [opD, hc, h1, h2, hi]; rfl
 rw [hD]
 unfold fC
 rw [he, Option.bind_some, hs, Option.bind_some, hb, Option.bind_some, hz, Option.bind_some]
 split at hr
 ·rename_i n m hsrc
  rw [hsrc, Option.bind_some]
  unfold b9J at hr
  split at hr
  ·rename_i k cc hx
   obtain ⟨g1, hq1⟩ := cV hr
   obtain ⟨g2, hq2⟩ := cV hq1
   obtain ⟨g3, hq⟩ := cV hq2
   clear hr hq1 hq2
   obtain rfl : k = 0 := Nat.eq_of_beq_eq_true g1
   obtain rfl : cc = 0 := Nat.eq_of_beq_eq_true g2
   have g3 : n * (bytes + 1) ≤ gD := Nat.le_of_ble_eq_true g3
   simp only [hx]
   rw [if_pos (by simp [hs0, hzs, g3])]
   rw [cE] at hq
   by_cases hn : n = 0
   ·subst hn
    rw [if_pos (by rfl)] at hq
    obtain ⟨rfl, rfl⟩ := Rs.ok_is hq
    simp
   ·rw [if_neg (fun e => hn (Nat.eq_of_beq_eq_true e))] at hq
    obtain ⟨rfl, rfl⟩ := Rs.th_is hq
    simp [hn]
  ·rename_i A i e k cc hx
   unfold c0u at hr
   split at hr
   ·rename_i cs ty lo ver hg
    obtain ⟨g2, hr⟩ := cV hr
    obtain ⟨g4, hr⟩ := cV hr
    obtain ⟨g5, hr⟩ := cV hr
    have g2 : (ty == elem || aE P ty == some size) = true := by
     rw [c1B] at g2
     cases hh : (ty == elem) with
     | true => rfl
     | false => rw [hh] at g2; exact g2
    rw [qA] at g4
    have g4 : e = cs.length := by simpa only [decide_eq_true_eq] using g4
    have g5 : lo ≤ e := Nat.le_of_ble_eq_true g5
    simp only [hx, hg]
    rw [cE] at hr
    by_cases g3 : i + k * size = e
    ·rw [if_pos (by simpa using g3)] at hr
     obtain ⟨g1, hr⟩ := cV hr
     obtain ⟨rfl, rfl⟩ := Rs.th_is hr
     have g1 : (k + n) * (bytes + 1) ≤ gD := Nat.le_of_ble_eq_true g1
     have et : (Bool.rec (motive := fun _ => Nat) 2 ver (Nat.beq ty elem)) = (if (ty == elem) = true then ver else 2) := by
      rw [c1B]
      cases hh : (ty == elem) with
      | true => rfl
      | false => rfl
     rw [et, if_pos (by simp only [g2, Bool.and_true, Bool.and_eq_true, bne_iff_ne, beq_iff_eq, decide_eq_true_eq]; exact ⟨⟨⟨⟨⟨hs0, g1⟩, by simpa using hzs⟩, g3⟩, g4⟩, g5⟩)]
    ·rw [if_neg (by simpa using g3)] at hr
     rw [cE] at hr
     by_cases hn : n = 0
     ·rw [if_pos (by simpa using hn)] at hr
      exact absurd hr Rs.no_is
     ·rw [if_neg (by simpa using hn)] at hr
      obtain ⟨g6, hr⟩ := cV hr
      obtain ⟨rfl, rfl⟩ := Rs.th_is hr
      have g6 : i + (k + n) * size ≤ e := Nat.le_of_ble_eq_true g6
      rw [if_neg (by simp [g3]), if_pos (by simp only [g2, Bool.and_true, Bool.and_eq_true, bne_iff_ne, beq_iff_eq, decide_eq_true_eq]; exact ⟨⟨⟨⟨⟨hs0, hn⟩, by simpa using hzs⟩, g6⟩, g4⟩, g5⟩), g4]
   ·exact absurd hr Rs.no_is
  ·exact absurd hr Rs.no_is
 ·exact absurd hr Rs.no_is
theorem a8F {c : Call} {k : FuncId} (hc : c.callee = .value (.func k)) (hok : (Op.call c).operands.toList.all aM = true) : nN P ⟨dst, .call c, type, pos, after, guard⟩ (.callF k (cM k) (c.args.toList.map aT)) := fun C H0 f l H v H1 hC hk hf hr => by
 have hr : (zV f (c.args.toList.map aT) fun l => C.fn (cM k) k l H).Is v H1 := hr
 rw [a2A hf] at hr
 obtain ⟨h1 | hx, h2⟩ := hC.fn _ _ _ _ _ _ hk hr rfl
 case inr => exact ⟨.ext hok c (.func k) k #[] #[] rfl hc rfl (by simpa using hx), h2⟩
 obtain ⟨he, v', H', hcall, rfl, rfl⟩ := h1.fn
 exact ⟨.call hok c (.func k) k #[] #[] rfl hc rfl he (by simpa using hcall), h2⟩
theorem a7Q {c : Call} {g : Operand} (hc : c.callee = .value g) (hok : (Op.call c).operands.toList.all aM = true) : nN P ⟨dst, .call c, type, pos, after, guard⟩ (.callV (aT g) (c.args.toList.map aT)) := fun C H0 f l H v H1 hC hk hf hr => by
 have hr : (zV f (c.args.toList.map aT) fun l => a5E C l H (eE f (aT g))).Is v H1 := hr
 rw [a2A hf, bM hf] at hr
 unfold a5E at hr
 split at hr
 ·rename_i k a b hg
  rw [bR, dA] at hr
  obtain ⟨h1 | hx, h2⟩ := hC.fn _ _ _ _ _ _ hk hr rfl
  case inr => exact ⟨.ext hok c g k ⟨a⟩ ⟨b⟩ rfl hc hg (by simpa [qH] using hx), h2⟩
  obtain ⟨he, v', H', hcall, rfl, rfl⟩ := h1.fn
  exact ⟨.call hok c g k ⟨a⟩ ⟨b⟩ rfl hc hg he (by simpa [qH] using hcall), h2⟩
 ·rename_i L a b hg
  obtain ⟨h1, h2⟩ := hC.rd _ _ _ _ _ hk hr
  exact ⟨.round hok c g L _ _ rfl hc hg h1, h2⟩
 ·exact absurd hr Rs.no_is
end
set_option maxHeartbeats 1000000 in
theorem a6v {α : Type} (o : Oper) (K : LOp → α) : ∃ lo, nN P o lo ∧ pR P o K = K lo := by
 unfold pR
 rw [cE]
 by_cases hok : o.op.operands.toList.all aM = true
 case neg => rw [if_neg hok]; exact ⟨_, b2M o, rfl⟩
 rw [if_pos hok]
 have gen : ∃ lo, nN P o lo ∧ K (.gen o) = K lo := ⟨_, (b4h o).low hok, rfl⟩
 obtain ⟨dst, op, type, pos, after, guard⟩ := o
 unfold b9d
 cases op with
 | move x => simp only [cS]; exact ⟨_, (b7T x).low hok, rfl⟩
 | assign x => simp only [cS]; exact ⟨_, (b7M x).low hok, rfl⟩
 | pick c a b => simp only [cS]; exact ⟨_, (b0b c a b).low hok, rfl⟩
 | binOp op t x y yt =>
   simp only [cS, cE]
   split
   ·split
    ·rename_i g hg; exact ⟨_, (b3A hg t yt x y).low hok, rfl⟩
    ·exact gen
   ·exact gen
 | load t x =>
   simp only [cS]
   split
   ·rename_i ht
    cases hn : aE P t with
    | none => exact gen
    | some n => rw [gL]; exact ⟨_, (b3R ht hn x).low hok, rfl⟩
   ·rename_i ht; exact ⟨_, (b2O ht x).low hok, rfl⟩
   ·exact gen
 | store t x y =>
   simp only [cS]
   cases hn : aE P t with
   | none => exact gen
   | some n => rw [gL]; exact ⟨_, (b8y hn x y).low hok, rfl⟩
 | fieldAddr s x k =>
   simp only [cS]
   split
   ·rename_i fd hfd
    split
    ·exact gen
    ·rename_i n hn0 hn
     rw [bR]
     exact ⟨_, (b7P hfd hn (fun e => hn0 e) x).low hok, rfl⟩
    ·exact gen
   ·exact gen
 | indexAddr t x i =>
   simp only [cS]
   split
   ·rename_i elem ht
    cases hs : aE P elem with
    | none => exact gen
    | some n => rw [gL]; exact ⟨_, (b4a ht hs x i).low hok, rfl⟩
   ·rename_i n elem ht
    cases hs : aE P elem with
    | none => exact gen
    | some m => rw [gL]; exact ⟨_, (b4d ht hs x i).low hok, rfl⟩
   ·exact gen
 | extract t i => simp only [cS]; rw [bR]; exact ⟨_, (b5o i t).low hok, rfl⟩
 | call c =>
   simp only
   unfold b1x
   split
   ·rename_i k hc
    rw [dA, zU]
    exact ⟨_, a8F hc hok, rfl⟩
   ·rename_i g _ hc
    rw [cS, zU]
    exact ⟨_, a7Q hc hok, rfl⟩
   ·rename_i hc
    rw [cE]
    split
    ·rename_i h1
     simp only [Bool.and_eq_true, beq_iff_eq] at h1
     split
     ·rename_i elem ht; rw [cS]; exact ⟨_, (b2B hc h1.1 h1.2 ht).low hok, rfl⟩
     ·rename_i ht; rw [cS]; exact ⟨_, (a9R hc h1.1 h1.2 ht).low hok, rfl⟩
     ·exact gen
    ·exact gen
   ·rename_i hc
    rw [cE]
    split
    ·rename_i h1
     simp only [Bool.and_eq_true, beq_iff_eq] at h1
     split
     ·rename_i elem he
      cases hs : aE P elem with
      | none => exact gen
      | some size =>
        rw [gL]
        cases hb : fO P elem with
        | none => exact gen
        | some bytes =>
          rw [gL]
          split
          ·rename_i z hz
           rw [cE]
           split
           ·rename_i h2
            simp only [Bool.and_eq_true, beq_iff_eq, bne_iff_ne] at h2
            rw [bR, cS, cS]
            exact ⟨_, (b5i hc h1.1.1 h1.1.2 h1.2 he hs hb hz h2.1 h2.2).low hok, rfl⟩
           ·exact gen
          ·exact gen
     ·exact gen
    ·exact gen
   ·exact gen
 | _ => exact gen
end Go.Ds
namespace Go.Ds
variable {P : Program}
def DOk (k : Nat) (dst : Option Tmp) (d : Option Pth) : Prop := (dst = none ∧ d = none) ∨ ∃ t, dst = some t ∧ t < k ∧ d = some (cM t)
inductive LowOps (P : Program) (k : Nat) (ops : Array Oper) : List Oper → LOps → Prop
 | nil : LowOps P k ops [] .nil
 | cons {o : Oper} {os : List Oper} {d : Option Pth} {lo : LOp} {r : LOps} (hd : DOk k o.dst d) (ho : nN P o lo) (hg : o.guard = none) (hr : LowOps P k ops os r) : LowOps P k ops (o :: os) (.cons d lo r)
 | gcons {o : Oper} {os : List Oper} {d : Option Pth} {lo : LOp} {r : LOps} {j t : Nat} {w : Bool} (hd : DOk k o.dst d) (ho : nN P o lo) (hg : o.guard = some (j, w)) (ht : (ops[j]?).bind (·.dst) = some t) (htk : t < k) (hr : LowOps P k ops os r) : LowOps P k ops (o :: os) (.gcons (cM t) w d lo r)
def GOk (ops : Array Oper) (o : Oper) (g : Option (Pth × Bool)) : Prop := (o.guard = none ∧ g = none) ∨ ∃ j w t, o.guard = some (j, w) ∧ (ops[j]?).bind (·.dst) = some t ∧ g = some (cM t, w)
theorem GOk.runs {ops : Array Oper} {o : Oper} {g : Option (Pth × Bool)} (h : GOk ops o g) {f : Fr} {l : List Value} (hf : FAg f l) (hw : Region.wanted o (aS ops l) = true) : b0f f g = true := by
 rcases h with ⟨_, rfl⟩ | ⟨j, w, t, hg, ht, rfl⟩
 ·rfl
 ·simp only [Region.wanted, hg, aS, ht] at hw
  show isB (fI (cM t) f) w = true
  rw [hf t, fN, List.getD_eq_getElem?_getD]
  cases hl : l[t]? with
  | none => rw [hl] at hw; simp at hw
  | some v =>
    rw [hl] at hw
    cases v <;> simp at hw
    subst hw
    rename_i b
    cases b <;> rfl
inductive LowTab (P : Program) (ops : Array Oper) : List (Nat × Nat) → List (Nat × Option Nat × Option (Pth × Bool) × LOp) → Prop
 | nil : LowTab P ops [] []
 | cons {i m : Nat} {o : Oper} {lo : LOp} {tab : List (Nat × Nat)} {t : List (Nat × Option Nat × Option (Pth × Bool) × LOp)} {g : Option (Pth × Bool)} (ho : ops[i]? = some o) (hgd : GOk ops o g) (hl : nN P o lo) (hr : LowTab P ops tab t) :
    LowTab P ops ((i, m) :: tab) ((ops.size - 1 - i, if m < ops.size then some (ops.size - 1 - m) else none, g, lo) :: t)
inductive Low (P : Program) (k : Nat) : Code → LCode → Prop
 | bad (c : Code) : Low P k c .bad
 | skip : Low P k .skip .skip
 | label (t : Nat) : Low P k (.label t) .skip
 | reg {id : Nat} {ops : Array Oper} {d : Bool} {lo : LOps} (h : LowOps P k ops ops.toList lo) (hd : d = true → eS P ops = some []) : Low P k (.region id ops d) (.reg lo)
 | drw {id : Nat} {ops : Array Oper} {lo : LOps} {tab : List (Nat × Nat)} {t : List (Nat × Option Nat × Option (Pth × Bool) × LOp)} (h : LowOps P k ops ops.toList lo) (ht : eS P ops = some tab) (hl : LowTab P ops tab t) : Low P k (.region id ops true) (.drw lo t)
 | seq {a b : Code} {A B : LCode} (ha : Low P k a A) (hb : Low P k b B) : Low P k (.seq a b) (.seq A B)
 | cond {c : Operand} {x y : Code} {X Y : LCode} (hc : aM c = true) (hx : Low P k x X) (hy : Low P k y Y) : Low P k (.cond c x y) (.cond (aT c) X Y)
 | block {id : Nat} {b : Code} {B : LCode} (hb : Low P k b B) : Low P k (.block id b) (.block id B)
 | loop {b : Code} {B : LCode} (hb : Low P k b B) : Low P k (.loop b) (.loop B)
 | exit (id : Nat) : Low P k (.exit id) (.exit id)
 | ret : Low P k .ret .ret
 | range {g : Operand} {ps : Array Tmp} {assign body : Code} {A B : LCode} (hg : aM g = true) (hps : ∀ t ∈ ps.toList, t < k) (ha : Low P k assign A) (hb : Low P k body B) :
    Low P k (.rangeFunc g ps assign body) (.range (aT g) ((List.range k).map cM) (ps.toList.map cM) ps assign body A B)
section
variable {α : Type}
theorem b1a (k : Nat) (dst : Option Tmp) (no : α) (K : Option Pth → α) : (∃ d, DOk k dst d ∧ a2N k dst no K = K d) ∨ a2N k dst no K = no := by
 cases dst with
 | none => exact .inl ⟨none, .inl ⟨rfl, rfl⟩, rfl⟩
 | some t =>
   simp only [a2N, cE]
   split
   ·rename_i h
    rw [dA]
    rw [blt_eq] at h
    exact .inl ⟨_, .inr ⟨t, rfl, by simpa using h, rfl⟩, rfl⟩
   ·exact .inr rfl
theorem vD (k : Nat) (ops : Array Oper) (l : List Oper) (K : LOps → α) (no : α) : (∃ L, LowOps P k ops l L ∧ mP P k ops l K no = K L) ∨ mP P k ops l K no = no := by
 induction l generalizing K with
 | nil => exact .inl ⟨_, .nil, rfl⟩
 | cons o l ih =>
   let K2 : Option Pth → LOp → α := fun d o' => match o.guard with
    | none => mP P k ops l (fun r => K (.cons d o' r)) no
    | some (j, w) => match (ops[j]?).bind (·.dst) with
      | some t => fH (Nat.blt t k) no (dD (cM t) fun p => rC w fun w => mP P k ops l (fun r => K (.gcons p w d o' r)) no)
      | none => no
   have e : mP P k ops (o :: l) K no = a2N k o.dst no fun d => pR P o fun o' => K2 d o' := rfl
   rw [e]
   rcases b1a k o.dst no (fun d => pR P o fun o' => K2 d o') with ⟨d, hd, h1⟩ | h1
   ·rw [h1]
    obtain ⟨lo, hlo, h2⟩ := a6v (P := P) o (fun o' => K2 d o')
    rw [h2]
    simp only [K2]
    split
    ·rename_i hg
     rcases ih (fun r => K (.cons d lo r)) with ⟨L, hL, h3⟩ | h3
     ·exact .inl ⟨_, .cons hd hlo hg hL, h3⟩
     ·exact .inr h3
    ·rename_i j w hg
     split
     ·rename_i t ht
      rw [cE]
      split
      ·rename_i htk
       rw [dA, nB]
       rw [blt_eq] at htk
       rcases ih (fun r => K (.gcons (cM t) w d lo r)) with ⟨L, hL, h3⟩ | h3
       ·exact .inl ⟨_, .gcons hd hlo hg ht (by simpa using htk) hL, h3⟩
       ·exact .inr h3
      ·exact .inr rfl
     ·exact .inr rfl
   ·exact .inr h1
theorem b7t (k : Nat) (ops : Array Oper) (o : Oper) (no : α) (K : Option (Pth × Bool) → α) : (∃ g, GOk ops o g ∧ loG k ops o.guard no K = K g) ∨ loG k ops o.guard no K = no := by
 cases hg : o.guard with
 | none => exact .inl ⟨none, .inl ⟨hg, rfl⟩, rfl⟩
 | some x =>
   obtain ⟨j, w⟩ := x
   unfold loG
   cases ht : (ops[j]?).bind (·.dst) with
   | none => exact .inr (by simp only [ht])
   | some t =>
     simp only [ht, cE]
     split
     ·refine .inl ⟨some (cM t, w), .inr ⟨j, w, t, hg, ht, rfl⟩, ?_⟩
      rw [dA, nB]
     ·exact .inr rfl
theorem a9w (k : Nat) (ops : Array Oper) (tab : List (Nat × Nat)) (K : List (Nat × Option Nat × Option (Pth × Bool) × LOp) → α) (no : α) : (∃ t, LowTab P ops tab t ∧ lG P k ops ops.size tab K no = K t) ∨ lG P k ops ops.size tab K no = no := by
 induction tab generalizing K with
 | nil => exact .inl ⟨_, .nil, rfl⟩
 | cons x tab ih =>
   obtain ⟨i, m⟩ := x
   cases ho : ops[i]? with
   | none =>
     refine .inr ?_
     show (match ops[i]? with
      | some o => _
      | none => no) = no
     rw [ho]
   | some o =>
     let K2 : Option (Pth × Bool) → LOp → α := fun g o' => bY (ops.size - 1 - i) fun i => fH (Nat.blt m ops.size) (lG P k ops ops.size tab (fun l => K ((i, none, g, o') :: l)) no) (bY (ops.size - 1 - m) fun m => lG P k ops ops.size tab (fun l => K ((i, some m, g, o') :: l)) no)
     have e : lG P k ops ops.size ((i, m) :: tab) K no = loG k ops o.guard no fun g => pR P o fun o' => K2 g o' := by
      show (match ops[i]? with
       | some o => loG k ops o.guard no fun g => pR P o fun o' => K2 g o'
       | none => no) = _
      rw [ho]
     rw [e]
     rcases b7t k ops o no (fun g => pR P o fun o' => K2 g o') with ⟨g, hgd, h1⟩ | h1
     ·rw [h1]
      obtain ⟨lo, hlo, h2⟩ := a6v (P := P) o (fun o' => K2 g o')
      rw [h2]
      show (∃ t, _ ∧ bY (ops.size - 1 - i) (fun i => fH (Nat.blt m ops.size) (lG P k ops ops.size tab (fun l => K ((i, none, g, lo) :: l)) no) (bY (ops.size - 1 - m) fun m => lG P k ops ops.size tab (fun l => K ((i, some m, g, lo) :: l)) no)) = K t) ∨ bY (ops.size - 1 - i) (fun i => fH (Nat.blt m ops.size) (lG P k ops ops.size tab (fun l => K ((i, none, g, lo) :: l)) no) (bY (ops.size - 1 - m) fun m => lG P k ops ops.size tab (fun l => K ((i, some m, g, lo) :: l)) no)) = no
      rw [bR, cE, bR, blt_eq]
      by_cases hm : m < ops.size
      ·rw [if_pos (by simpa using hm)]
       rcases ih (fun l => K ((ops.size - 1 - i, some (ops.size - 1 - m), g, lo) :: l)) with ⟨t, ht, h3⟩ | h3
       ·have := LowTab.cons (m := m) ho hgd hlo ht
        rw [if_pos hm] at this
        exact .inl ⟨_, this, h3⟩
       ·exact .inr h3
      ·rw [if_neg (by simpa using hm)]
       rcases ih (fun l => K ((ops.size - 1 - i, none, g, lo) :: l)) with ⟨t, ht, h3⟩ | h3
       ·have := LowTab.cons (m := m) ho hgd hlo ht
        rw [if_neg hm] at this
        exact .inl ⟨_, this, h3⟩
       ·exact .inr h3
     ·exact .inr h1
theorem a7m (k : Nat) (l : List Tmp) (K : List Pth → α) (no : α) : ((∀ t ∈ l, t < k) ∧ oS k l K no = K (l.map cM)) ∨ oS k l K no = no := by
 induction l generalizing K with
 | nil => exact .inl ⟨by simp, rfl⟩
 | cons t l ih =>
   show _ ∨ fH (Nat.blt t k) no (dD (cM t) fun p => oS k l (fun l => K (p :: l)) no) = no
   have e : oS k (t :: l) K no = fH (Nat.blt t k) no (dD (cM t) fun p => oS k l (fun l => K (p :: l)) no) := rfl
   rw [e, cE, dA, blt_eq]
   by_cases h : t < k
   ·rw [if_pos (by simpa using h)]
    rcases ih (fun l => K (cM t :: l)) with ⟨h1, h2⟩ | h2
    ·exact .inl ⟨by simpa using ⟨h, h1⟩, h2⟩
    ·exact .inr h2
   ·rw [if_neg (by simpa using h)]; exact .inr rfl
theorem a8o (k : Nat) (c : Code) (K : LCode → α) : ∃ C, Low P k c C ∧ eT P k c K = K C := by
 induction c generalizing K with
 | skip => exact ⟨_, .skip, rfl⟩
 | region id ops d =>
   cases d with
   | false =>
     show ∃ C, _ ∧ mP P k ops ops.toList (fun l => K (.reg l)) (K .bad) = K C
     rcases vD (P := P) k ops ops.toList (fun l => K (.reg l)) (K .bad) with ⟨L, hL, h⟩ | h
     ·exact ⟨_, .reg hL (fun h => by cases h), h⟩
     ·exact ⟨_, .bad _, h⟩
   | true =>
     show ∃ C, _ ∧ (match eS P ops with
      | some [] => mP P k ops ops.toList (fun l => K (.reg l)) (K .bad)
      | some tab => mP P k ops ops.toList (fun l => lG P k ops ops.size tab (fun t => K (.drw l t)) (K .bad)) (K .bad)
      | none => K .bad) = K C
     split
     ·rename_i hd
      rcases vD (P := P) k ops ops.toList (fun l => K (.reg l)) (K .bad) with ⟨L, hL, h⟩ | h
      ·exact ⟨_, .reg hL (fun _ => hd), h⟩
      ·exact ⟨_, .bad _, h⟩
     ·rename_i tab _ hd
      rcases vD (P := P) k ops ops.toList (fun l => lG P k ops ops.size tab (fun t => K (.drw l t)) (K .bad)) (K .bad) with ⟨L, hL, h⟩ | h
      ·rw [h]
       rcases a9w (P := P) k ops tab (fun t => K (.drw L t)) (K .bad) with ⟨t, ht, h2⟩ | h2
       ·exact ⟨_, .drw hL hd ht, h2⟩
       ·exact ⟨_, .bad _, h2⟩
      ·exact ⟨_, .bad _, h⟩
     ·exact ⟨_, .bad _, rfl⟩
 | seq a b iha ihb =>
   show ∃ C, _ ∧ eT P k a (fun a => eT P k b fun b => K (.seq a b)) = K C
   obtain ⟨A, hA, h1⟩ := iha (fun a => eT P k b fun b => K (.seq a b))
   obtain ⟨B, hB, h2⟩ := ihb (fun b => K (.seq A b))
   exact ⟨_, .seq hA hB, h1.trans h2⟩
 | cond c x y ihx ihy =>
   show ∃ C, _ ∧ fH (aM c) (K .bad) (dI c fun c => eT P k x fun x => eT P k y fun y => K (.cond c x y)) = K C
   rw [cE]
   split
   ·rename_i hc
    rw [cS]
    obtain ⟨X, hX, h1⟩ := ihx (fun x => eT P k y fun y => K (.cond (aT c) x y))
    obtain ⟨Y, hY, h2⟩ := ihy (fun y => K (.cond (aT c) X y))
    exact ⟨_, .cond hc hX hY, h1.trans h2⟩
   ·exact ⟨_, .bad _, rfl⟩
 | block id b ih =>
   show ∃ C, _ ∧ bY id (fun id => eT P k b fun b => K (.block id b)) = K C
   rw [bR]
   obtain ⟨B, hB, h1⟩ := ih (fun b => K (.block id b))
   exact ⟨_, .block hB, h1⟩
 | loop b ih =>
   show ∃ C, _ ∧ eT P k b (fun b => K (.loop b)) = K C
   obtain ⟨B, hB, h1⟩ := ih (fun b => K (.loop b))
   exact ⟨_, .loop hB, h1⟩
 | rangeFunc g ps assign body iha ihb =>
   show ∃ C, _ ∧ fH (aM g) (K .bad) (dI g fun g' => a6Z k fun pp => oS k ps.toList (fun q => eT P k assign fun a => eT P k body fun b => K (.range g' pp q ps assign body a b)) (K .bad)) = K C
   rw [cE]
   split
   ·rename_i hg
    rw [cS, a6l]
    rcases a7m k ps.toList (fun q => eT P k assign fun a => eT P k body fun b => K (.range (aT g) ((List.range k).map cM) q ps assign body a b)) (K .bad) with ⟨hps, h⟩ | h
    ·obtain ⟨A, hA, h1⟩ := iha (fun a => eT P k body fun b => K (.range (aT g) ((List.range k).map cM) (ps.toList.map cM) ps assign body a b))
     obtain ⟨B, hB, h2⟩ := ihb (fun b => K (.range (aT g) ((List.range k).map cM) (ps.toList.map cM) ps assign body A b))
     exact ⟨_, .range hg hps hA hB, h.trans (h1.trans h2)⟩
    ·exact ⟨_, .bad _, h⟩
   ·exact ⟨_, .bad _, rfl⟩
 | exit id =>
   show ∃ C, _ ∧ bY id (fun id => K (.exit id)) = K C
   rw [bR]
   exact ⟨_, .exit id, rfl⟩
 | label t => exact ⟨_, .label t, rfl⟩
 | ret => exact ⟨_, .ret, rfl⟩
 | scope b _ => exact ⟨_, .bad _, rfl⟩
 | goto t => exact ⟨_, .bad _, rfl⟩
 | refuse w => exact ⟨_, .bad _, rfl⟩
end
theorem mW {α : Type} {k : Nat} {f : Fr} {l : List Value} (h : FRel k f l) {dst : Option Tmp} {d : Option Pth} (hd : DOk k dst d) (v : Value) (K : Fr → α) : ∃ f', mG d v f K = K f' ∧ FRel k f' (put l dst v) := by
 rcases hd with ⟨rfl, rfl⟩ | ⟨t, rfl, ht, rfl⟩
 ·exact ⟨f, rfl, h⟩
 ·exact ⟨b0F f t v, kE v (cM t) f K, h.put ht v⟩
theorem pD {ops : Array Oper} {l : List Value} {j t : Nat} (ht : (ops[j]?).bind (·.dst) = some t) (htl : t < l.length) (w : Bool) : (aS ops l j == some w) = isB (get l t) w := by
 have hg : get l t = l[t] := by rw [fN]; simp [htl]
 unfold aS
 rw [ht, hg]
 simp only [List.getElem?_eq_getElem htl]
 cases hv : l[t] <;> simp [isB]
 rename_i b
 cases b <;> cases w <;> rfl
theorem b4P {k : Nat} {ops : Array Oper} {C : Calls'} {H0 : Heap} (hC : CallsOk P C H0) {os : List Oper} {lo : LOps} (hlo : LowOps P k ops os lo) : ∀ {i : Nat}, ops.toList.drop i = os → ∀ {f : Fr} {l : List Value} {H : Heap} {f1 : Fr} {H1 : Heap},
 FRel k f l → LK H0 H → pV P C lo f H = .ok f1 H1 → ∃ l1, FRel k f1 l1 ∧ OpsR P ops (List.range' i os.length) l H l1 H1 ∧ LK H H1 := by
 induction hlo with
 | nil =>
   intro i _ f l H f1 H1 hf _ h
   injection h with h1 h2
   subst h1 h2
   exact ⟨l, hf, .nil l H, .refl H⟩
 | @cons o os d lo r hd ho hg hr ih =>
   intro i hi f l H f1 H1 hf hk h
   have hio : ops[i]? = some o := by
    have : (ops.toList.drop i)[0]? = some o := by rw [hi]; rfl
    rw [List.getElem?_drop] at this
    simpa using this
   have hi' : ops.toList.drop (i + 1) = os := by rw [← List.drop_drop, hi]; rfl
   have hw : Region.wanted o (aS ops l) = true := by simp [Region.wanted, hg]
   have h : a6N Rf.no d f (pV P C r) (xP P C lo f H) = .ok f1 H1 := h
   have key : ∀ v H2, (xP P C lo f H).Is v H2 → (mG d v f fun f => pV P C r f H2) = .ok f1 H1 → ∃ l1, FRel k f1 l1 ∧ OpsR P ops (List.range' i (o :: os).length) l H l1 H1 ∧ LK H H1 := by
    intro v H2 hop hrest
    obtain ⟨hs, hk2⟩ := ho C H0 f l H v H2 hC hk hf.2 hop
    obtain ⟨f', e, hf'⟩ := mW hf hd v (fun f => pV P C r f H2)
    rw [e] at hrest
    obtain ⟨l1, h1, h2, h3⟩ := ih hi' hf' (hk.trans hk2) hrest
    exact ⟨l1, h1, .step hio hw hs h2, hk2.trans h3⟩
   cases hop : xP P C lo f H with
   | no => rw [hop] at h; cases h
   | ok v H2 => rw [hop] at h; exact key v H2 (.inl hop) h
   | th v H2 =>
     rw [hop] at h
     have h : pU v (fun v => fF H2 fun H2 => mG d v f fun f => pV P C r f H2) = .ok f1 H1 := h
     rw [qB, dQ] at h
     exact key v H2 (.inr hop) h
 | @gcons o os d lo r j t w hd ho hg ht htk hr ih =>
   intro i hi f l H f1 H1 hf hk h
   have hio : ops[i]? = some o := by
    have : (ops.toList.drop i)[0]? = some o := by rw [hi]; rfl
    rw [List.getElem?_drop] at this
    simpa using this
   have hi' : ops.toList.drop (i + 1) = os := by rw [← List.drop_drop, hi]; rfl
   have hwi : Region.wanted o (aS ops l) = isB (fI (cM t) f) w := by
    simp only [Region.wanted, hg]
    rw [pD ht (by rw [hf.1]; exact htk) w, hf.2 t]
   have h : fH (isB (fI (cM t) f) w) (mG d undef f fun f => pV P C r f H) (a6N Rf.no d f (pV P C r) (xP P C lo f H)) = .ok f1 H1 := h
   rw [cE] at h
   split at h
   ·rename_i hb
    have key : ∀ v H2, (xP P C lo f H).Is v H2 → (mG d v f fun f => pV P C r f H2) = .ok f1 H1 → ∃ l1, FRel k f1 l1 ∧ OpsR P ops (List.range' i (o :: os).length) l H l1 H1 ∧ LK H H1 := by
     intro v H2 hop hrest
     obtain ⟨hs, hk2⟩ := ho C H0 f l H v H2 hC hk hf.2 hop
     obtain ⟨f', e, hf'⟩ := mW hf hd v (fun f => pV P C r f H2)
     rw [e] at hrest
     obtain ⟨l1, h1, h2, h3⟩ := ih hi' hf' (hk.trans hk2) hrest
     exact ⟨l1, h1, .step hio (by rw [hwi, hb]) hs h2, hk2.trans h3⟩
    cases hop : xP P C lo f H with
    | no => rw [hop] at h; cases h
    | ok v H2 => rw [hop] at h; exact key v H2 (.inl hop) h
    | th v H2 =>
      rw [hop] at h
      have h : pU v (fun v => fF H2 fun H2 => mG d v f fun f => pV P C r f H2) = .ok f1 H1 := h
      rw [qB, dQ] at h
      exact key v H2 (.inr hop) h
   ·rename_i hb
    obtain ⟨f', e, hf'⟩ := mW hf hd undef (fun f => pV P C r f H)
    rw [e] at h
    obtain ⟨l1, h1, h2, h3⟩ := ih hi' hf' hk h
    exact ⟨l1, h1, .past hio (by rw [hwi]; simpa using hb) h2, h3⟩
structure Noted (P : Program) (k : Nat) (ops : Array Oper) (H : Heap) (i n : Nat) (T : Nat → List Value × Heap) (val : Nat → Value) (tr0 tr : List (Fr × Heap × Value)) : Prop where
 step : ∀ j, i ≤ j → j < i + n → nT P ops j (T j) (T (j + 1)) (val j)
 new : ∀ j, i ≤ j → j < i + n → ∃ g, tr[i + n - 1 - j]? = some (g, (T j).2, val j) ∧ FAg g (T j).1
 old : ∀ m, tr[n + m]? = tr0[m]?
 lk : ∀ j, i ≤ j → j ≤ i + n → LK H (T j).2
theorem a9A {k : Nat} {ops : Array Oper} {C : Calls'} {H0 : Heap} (hC : CallsOk P C H0) {os : List Oper} {lo : LOps} (hlo : LowOps P k ops os lo) : ∀ {i : Nat}, ops.toList.drop i = os → ∀ {tr0 tr : List (Fr × Heap × Value)} {f : Fr} {l : List Value} {H : Heap} {f1 : Fr} {H1 : Heap},
 FRel k f l → LK H0 H → jJ P C lo tr0 f H = .ok tr f1 H1 → ∃ T val l1, T i = (l, H) ∧ T (i + os.length) = (l1, H1) ∧ FRel k f1 l1 ∧ Noted P k ops H i os.length T val tr0 tr := by
 have more : ∀ {i n : Nat} {o : Oper} {tr0 tr : List (Fr × Heap × Value)} {f : Fr} {l : List Value} {H : Heap} {v : Value} {l2 : List Value} {H2 : Heap} {l1 : List Value} {H1 : Heap} {f1 : Fr}, FRel k f l → nT P ops i (l, H) (l2, H2) v → LK H H2 →
  (∃ T val l1, T (i + 1) = (l2, H2) ∧ T (i + 1 + n) = (l1, H1) ∧ FRel k f1 l1 ∧ Noted P k ops H2 (i + 1) n T val ((f, H, v) :: tr0) tr) →
  ∃ T val l1, T i = (l, H) ∧ T (i + (n + 1)) = (l1, H1) ∧ FRel k f1 l1 ∧ Noted P k ops H i (n + 1) T val tr0 tr := by
  intro i n o tr0 tr f l H v l2 H2 _ H1 f1 hf hst hk ⟨T, val, l1, h1, h2, h3, hN⟩
  refine ⟨fun j => if j ≤ i then (l, H) else T j, fun j => if j ≤ i then v else val j, l1, by simp, ?_, h3, ?_⟩
  ·show (if i + (n + 1) ≤ i then (l, H) else T (i + (n + 1))) = _
   rw [if_neg (by omega), ← h2]; congr 1; omega
  ·refine ⟨fun j hj hn => ?_, fun j hj hn => ?_, fun m => ?_, fun j hj hn => ?_⟩
   ·by_cases he : j = i
    ·subst he
     simp only [Nat.le_refl, if_true]
     rw [if_neg (by omega), h1]
     exact hst
    ·rw [if_neg (by omega), if_neg (by omega), if_neg (by omega)]
     exact hN.step j (by omega) (by omega)
   ·by_cases he : j = i
    ·subst he
     simp only [Nat.le_refl, if_true]
     refine ⟨f, ?_, hf.2⟩
     have := hN.old 0
     rw [show j + (n + 1) - 1 - j = n + 0 by omega, this]; rfl
    ·rw [if_neg (by omega), if_neg (by omega)]
     obtain ⟨g, hg, hag⟩ := hN.new j (by omega) (by omega)
     exact ⟨g, by rw [← hg]; congr 1; omega, hag⟩
   ·have := hN.old (m + 1)
    rw [show n + 1 + m = n + (m + 1) by omega, this]; rfl
   ·by_cases he : j = i
    ·subst he; simp only [Nat.le_refl, if_true]; exact .refl H
    ·rw [if_neg (by omega)]; exact hk.trans (hN.lk j (by omega) (by omega))
 induction hlo with
 | nil =>
   intro i _ tr0 tr f l H f1 H1 hf _ h
   injection h with h1 h2 h3
   subst h1 h2 h3
   exact ⟨fun _ => (l, H), fun _ => undef, l, rfl, rfl, hf, fun j _ h => absurd h (by simp; omega), fun j _ h => absurd h (by simp; omega), fun m => by simp, fun _ _ _ => .refl H⟩
 | @cons o os d lo r hd ho hg hr ih =>
   intro i hi tr0 tr f l H f1 H1 hf hk h
   have hio : ops[i]? = some o := by
    have : (ops.toList.drop i)[0]? = some o := by rw [hi]; rfl
    rw [List.getElem?_drop] at this
    simpa using this
   have hi' : ops.toList.drop (i + 1) = os := by rw [← List.drop_drop, hi]; rfl
   have hw : Region.wanted o (aS ops l) = true := by simp [Region.wanted, hg]
   have h : a6c tr0 f H d (jJ P C r) (xP P C lo f H) = .ok tr f1 H1 := h
   have key : ∀ v H2, (xP P C lo f H).Is v H2 → (mG d v f fun f2 => jJ P C r ((f, H, v) :: tr0) f2 H2) = .ok tr f1 H1 → ∃ T val l1, T i = (l, H) ∧ T (i + (o :: os).length) = (l1, H1) ∧ FRel k f1 l1 ∧ Noted P k ops H i (o :: os).length T val tr0 tr := by
    intro v H2 hop hrest
    obtain ⟨hs, hk2⟩ := ho C H0 f l H v H2 hC hk hf.2 hop
    obtain ⟨f', e, hf'⟩ := mW hf hd v (fun f2 => jJ P C r ((f, H, v) :: tr0) f2 H2)
    rw [e] at hrest
    have := ih hi' hf' (hk.trans hk2) hrest
    exact more (o := o) (l1 := l) hf ⟨o, hio, rfl, .inl ⟨hw, hs⟩⟩ hk2 this
   cases hop : xP P C lo f H with
   | no => rw [hop] at h; cases h
   | ok v H2 => rw [hop] at h; exact key v H2 (.inl hop) h
   | th v H2 =>
     rw [hop] at h
     have h : pU v (fun v => fF H2 fun H2 => mG d v f fun f2 => jJ P C r ((f, H, v) :: tr0) f2 H2) = .ok tr f1 H1 := h
     rw [qB, dQ] at h
     exact key v H2 (.inr hop) h
 | @gcons o os d lo r j t w hd ho hg ht htk hr ih =>
   intro i hi tr0 tr f l H f1 H1 hf hk h
   have hio : ops[i]? = some o := by
    have : (ops.toList.drop i)[0]? = some o := by rw [hi]; rfl
    rw [List.getElem?_drop] at this
    simpa using this
   have hi' : ops.toList.drop (i + 1) = os := by rw [← List.drop_drop, hi]; rfl
   have hwi : Region.wanted o (aS ops l) = isB (fI (cM t) f) w := by
    simp only [Region.wanted, hg]
    rw [pD ht (by rw [hf.1]; exact htk) w, hf.2 t]
   have h : fH (isB (fI (cM t) f) w) (mG d undef f fun f2 => jJ P C r ((f, H, undef) :: tr0) f2 H) (a6c tr0 f H d (jJ P C r) (xP P C lo f H)) = .ok tr f1 H1 := h
   rw [cE] at h
   split at h
   ·rename_i hb
    have key : ∀ v H2, (xP P C lo f H).Is v H2 → (mG d v f fun f2 => jJ P C r ((f, H, v) :: tr0) f2 H2) = .ok tr f1 H1 → ∃ T val l1, T i = (l, H) ∧ T (i + (o :: os).length) = (l1, H1) ∧ FRel k f1 l1 ∧ Noted P k ops H i (o :: os).length T val tr0 tr := by
     intro v H2 hop hrest
     obtain ⟨hs, hk2⟩ := ho C H0 f l H v H2 hC hk hf.2 hop
     obtain ⟨f', e, hf'⟩ := mW hf hd v (fun f2 => jJ P C r ((f, H, v) :: tr0) f2 H2)
     rw [e] at hrest
     exact more (o := o) (l1 := l) hf ⟨o, hio, rfl, .inl ⟨by rw [hwi, hb], hs⟩⟩ hk2 (ih hi' hf' (hk.trans hk2) hrest)
    cases hop : xP P C lo f H with
    | no => rw [hop] at h; cases h
    | ok v H2 => rw [hop] at h; exact key v H2 (.inl hop) h
    | th v H2 =>
      rw [hop] at h
      have h : pU v (fun v => fF H2 fun H2 => mG d v f fun f2 => jJ P C r ((f, H, v) :: tr0) f2 H2) = .ok tr f1 H1 := h
      rw [qB, dQ] at h
      exact key v H2 (.inr hop) h
   ·rename_i hb
    obtain ⟨f', e, hf'⟩ := mW hf hd undef (fun f2 => jJ P C r ((f, H, undef) :: tr0) f2 H)
    rw [e] at h
    exact more (o := o) (l1 := l) hf ⟨o, hio, rfl, .inr ⟨by rw [hwi]; simpa using hb, rfl, rfl⟩⟩ (.refl H) (ih hi' hf' hk h)
theorem a6S {α : Type} (p : α → Bool) (l : List α) : b1d p l = l.all p := by
 induction l with
 | nil => rfl
 | cons x l ih =>
   show fH (p x) false (b1d p l) = _
   rw [cE, ih, List.all_cons]
   cases p x <;> rfl
theorem b2N {v : Value} {r : Rs} (h : b4U v r = true) : ∃ H, r.Is v H := by
 cases r with
 | no => cases h
 | ok w H => exact ⟨H, .inl (by rw [b0S (show veq w v = true from h)])⟩
 | th w H => exact ⟨H, .inr (by rw [b0S (show veq w v = true from h)])⟩
theorem LowTab.get {ops : Array Oper} {tab : List (Nat × Nat)} {t : List (Nat × Option Nat × Option (Pth × Bool) × LOp)} (h : LowTab P ops tab t) {i m : Nat} (hm : (i, m) ∈ tab) : ∃ o lo g, ops[i]? = some o ∧ GOk ops o g ∧ nN P o lo ∧ (ops.size - 1 - i, (if m < ops.size then some (ops.size - 1 - m) else none), g, lo) ∈ t := by
 induction h with
 | nil => cases hm
 | @cons i2 m2 o lo tab t g ho hgd hl hr ih =>
   rcases List.mem_cons.1 hm with he | hm
   ·injection he with h1 h2
    subst h1 h2
    exact ⟨o, lo, g, ho, hgd, hl, by simp⟩
   ·obtain ⟨o', lo', g', h1, h0, h2, h3⟩ := ih hm
    exact ⟨o', lo', g', h1, h0, h2, List.mem_cons_of_mem _ h3⟩
theorem a3C {fl : Fl} {ops : Array Oper} {i m : Nat} (h : (i, m) ∈ dY fl ops) {o : Oper} (ho : ops[i]? = some o) : fE o.op = true := by
 unfold dY at h
 simp only [List.mem_flatMap] at h
 obtain ⟨⟨x, j⟩, hx, h⟩ := h
 dsimp only at h
 split at h
 ·rename_i hr
  simp only [List.mem_map] at h
  obtain ⟨m', _, e⟩ := h
  injection e with e1 e2
  subst e1
  have := List.mem_zipIdx_iff_getElem?.1 hx
  have : ops[j]? = some x := by simpa using this
  rw [this] at ho
  injection ho with ho
  subst ho
  exact hr
 ·cases h
theorem b3z (cD : P.follows .mixedOrders = true) {k id : Nat} {ops : Array Oper} {C : Calls'} {H : Heap} (hC : CallsOk P C H) {lo : LOps} {tab : List (Nat × Nat)} {t : List (Nat × Option Nat × Option (Pth × Bool) × LOp)} (hlo : LowOps P k ops ops.toList lo) (htab : eS P ops = some tab) (hl : LowTab P ops tab t)
 {f : Fr} {l : List Value} {e : Ex} {f1 : Fr} {H1 : Heap} (hf : FRel k f l) (h : b5X P C t (jJ P C lo [] f H) = .ok e f1 H1) : ∃ l1, e = .normal ∧ FRel k f1 l1 ∧ Sim P (.region id ops true) l H .normal l1 H1 ∧ LK H H1 := by
 cases hr : jJ P C lo [] f H with
 | no => rw [hr] at h; cases h
 | ok tr f2 H2 =>
   rw [hr] at h
   have h : fH (b1d (a9O P C tr H2) t) Rc.no (.ok .normal f2 H2) = .ok e f1 H1 := h
   rw [cE] at h
   split at h
   case isFalse => cases h
   rename_i hall
   injection h with h1 h2 h3
   subst h1 h2 h3
   obtain ⟨T, val, l1, hT0, hTn, hf1, hN⟩ := a9A hC hlo (i := 0) rfl hf (.refl H) hr
   rw [Array.length_toList, Nat.zero_add] at hTn
   rw [Array.length_toList] at hN
   have hlk : LK H H2 := by have := hN.lk ops.size (Nat.zero_le _) (by omega); rwa [hTn] at this
   refine ⟨l1, rfl, hf1, ?_, hlk⟩
   have := Sim.draw cD (id := id) htab (T := T) (val := val) ⟨fun j hj => hN.step j (Nat.zero_le _) (by omega)⟩ ?_
   ·rw [hT0, hTn] at this; exact this
   ·intro i m o hm ho hw
    obtain ⟨o', lo', gd, ho', hgd, hlow, hmem⟩ := hl.get hm
    rw [ho] at ho'
    obtain rfl := Option.some.inj ho'
    rw [a6S, List.all_eq_true] at hall
    have hrd := hall _ hmem
    have hi : i < ops.size := (Array.getElem?_eq_some_iff.1 ho).1
    obtain ⟨g, hg, hag⟩ := hN.new i (Nat.zero_le _) (by omega)
    have hg : tr[ops.size - 1 - i]? = some (g, (T i).2, val i) := by rw [← hg]; congr 1; omega
    have hread : fE o.op = true := by
     obtain ⟨fl, _, rfl⟩ := iG htab
     exact a3C hm ho
    have fin : ∀ H3, LK H H3 → b4U (val i) (xP P C lo' g H3) = true → ∃ H4, opD P o (T i).1 H3 = some (val i, H4) := by
     intro H3 hk3 hq
     obtain ⟨H4, h4⟩ := b2N hq
     obtain ⟨hs, _⟩ := hlow C H g (T i).1 H3 (val i) H4 hC hk3 hag h4
     refine ⟨H4, hs.opD fun c fv hc hv => ?_⟩
     rw [hc] at hread
     simp [fE, hv] at hread
    unfold a9O at hrd
    simp only [qF, hg, hgd.runs hag hw] at hrd
    rw [cE, if_pos rfl] at hrd
    by_cases hms : m < ops.size
    ·rw [if_pos hms] at hrd
     obtain ⟨g2, hg2, _⟩ := hN.new m (Nat.zero_le _) (by omega)
     have hg2 : tr[ops.size - 1 - m]? = some (g2, (T m).2, val m) := by rw [← hg2]; congr 1; omega
     simp only [hg2] at hrd
     exact fin _ (hN.lk m (Nat.zero_le _) (by omega)) hrd
    ·rw [if_neg hms] at hrd
     have hle : m = ops.size := by
      obtain ⟨fl, _, rfl⟩ := iG htab
      have := vL hm
      omega
     subst hle
     have := fin H2 hlk hrd
     rw [hTn]; exact this
end Go.Ds
namespace Go.Ds
variable {P : Program}
def lS (P : Program) : List ResultVar → List LRes → Prop
 | [], [] => True
 | r :: rs, l :: ls => (match r, l with
   | .tmp t, .t p => p = cM t
   | .cell a t, .c1 p => p = cM a ∧ bJ P t = some false
   | .cell a t, .cn n p => p = cM a ∧ bJ P t = some true ∧ aE P t = some n
   | _, _ => False) ∧ lS P rs ls
 | _, _ => False
theorem b1Q {α : Type} (l : List ResultVar) (K : List LRes → α) (no : α) : (∃ r, lS P l r ∧ sG P l K no = K r) ∨ sG P l K no = no := by
 induction l generalizing K with
 | nil => exact .inl ⟨[], trivial, rfl⟩
 | cons r l ih =>
   cases r with
   | tmp t =>
     have e : sG P (.tmp t :: l) K no = dD (cM t) fun p => sG P l (fun l => K (.t p :: l)) no := rfl
     rw [e, dA]
     rcases ih (fun l => K (.t (cM t) :: l)) with ⟨q, h1, h2⟩ | h2
     ·exact .inl ⟨.t (cM t) :: q, ⟨rfl, h1⟩, h2⟩
     ·exact .inr h2
   | cell a t =>
     have e : sG P (.cell a t :: l) K no = match bJ P t with
      | some true => xT (aE P t) no fun n => dD (cM a) fun p => sG P l (fun l => K (.cn n p :: l)) no
      | some false => dD (cM a) fun p => sG P l (fun l => K (.c1 p :: l)) no
      | none => no := rfl
     rw [e]
     split
     ·rename_i ha
      cases hn : aE P t with
      | none => exact .inr rfl
      | some n =>
        rw [gL, dA]
        rcases ih (fun l => K (.cn n (cM a) :: l)) with ⟨q, h1, h2⟩ | h2
        ·exact .inl ⟨.cn n (cM a) :: q, ⟨⟨rfl, ha, hn⟩, h1⟩, h2⟩
        ·exact .inr h2
     ·rename_i ha
      rw [dA]
      rcases ih (fun l => K (.c1 (cM a) :: l)) with ⟨q, h1, h2⟩ | h2
      ·exact .inl ⟨.c1 (cM a) :: q, ⟨⟨rfl, ha⟩, h1⟩, h2⟩
      ·exact .inr h2
     ·exact .inr rfl
theorem a6q {H H1 : Heap} {f : Fr} {l : List Value} (hf : FAg f l) {r : ResultVar} {q : LRes} {rs : List ResultVar} {qs : List LRes} (h : lS P (r :: rs) (q :: qs)) {v : Value} (hv : (zK H f q).Is v H1) : H1 = H ∧ tU P l H r = some v ∧ lS P rs qs := by
 obtain ⟨h, hr⟩ := h
 cases r with
 | tmp t => cases q with
   | t p =>
     have h : p = cM t := h
     subst h
     have hv : (fK (fI (cM t) f) fun v => Rs.ok v H).Is v H1 := hv
     rw [eM] at hv
     obtain ⟨rfl, rfl⟩ := Rs.ok_is hv
     exact ⟨rfl, by rw [hf t]; rfl, hr⟩
   | c1 p => exact h.elim
   | cn n p => exact h.elim
 | cell a t => cases q with
   | t p => exact h.elim
   | c1 p =>
     obtain ⟨rfl, ha⟩ := h
     obtain ⟨e, h1⟩ := a6y (P := P) (X := .t (cM a)) (w := get l a) ha (hf a) hv
     exact ⟨e, h1, hr⟩
   | cn n p =>
     obtain ⟨rfl, ha, hn⟩ := h
     obtain ⟨e, h1⟩ := a6x (P := P) (X := .t (cM a)) (w := get l a) ha hn (hf a) hv
     exact ⟨e, h1, hr⟩
theorem b3I {H : Heap} {f : Fr} {q : LRes} {v : Value} {H1 : Heap} : ¬ (zK H f q = .th v H1) := by
 intro h
 cases q with
 | t p =>
   have h : (fK (fI p f) fun v => Rs.ok v H) = .th v H1 := h
   rw [eM] at h; cases h
 | c1 p =>
   have h : a8W (.t p) f H = .th v H1 := h
   unfold a8W at h
   split at h
   ·unfold b3h at h
    split at h
    ·rw [cE, cE, cE] at h
     split at h
     ·split at h
      ·split at h
       ·rename_i cs _ _ _ _ _ _ _ _
        cases hn : tG cs _ with
        | none => rw [hn] at h; cases h
        | some w => rw [hn] at h; have h : (fK w fun v => Rs.ok v H) = .th v H1 := h; rw [eM] at h; cases h
       ·cases h
      ·cases h
     ·cases h
    ·cases h
   ·unfold b7a at h
    split at h
    ·rw [cE] at h
     split at h
     ·rename_i cs _ _ _ _
      cases hn : tG cs _ with
      | none => rw [hn] at h; cases h
      | some w => rw [hn] at h; have h : (fK w fun v => Rs.ok v H) = .th v H1 := h; rw [eM] at h; cases h
     ·cases h
    ·cases h
   ·cases h
 | cn n p =>
   have hh : a8N n (.t p) f H = .th v H1 := h
   unfold a8N at hh
   split at hh
   ·unfold b3o at hh
    split at hh
    ·rw [cE, cE, cE] at hh
     split at hh
     ·split at hh
      ·split at hh
       ·have key : ∀ {cs : List Value} {n : Nat} {pre : List Value}, ¬ (uE cs n fun l => Rs.ok (.agg ⟨pre ++ l⟩) H) = .th v H1 := by
         intro cs
         induction cs with
         | nil => intro n pre h; cases n <;> cases h
         | cons c cs ih =>
           intro n pre h
           cases n with
           | zero => cases h
           | succ n =>
             have h : (uE cs n fun l => Rs.ok (.agg ⟨pre ++ (c :: l)⟩) H) = .th v H1 := h
             have e : ∀ l : List Value, pre ++ (c :: l) = (pre ++ [c]) ++ l := by intro l; simp
             have h2 : (uE cs n fun l => Rs.ok (.agg ⟨(pre ++ [c]) ++ l⟩) H) = .th v H1 := by
              rw [← h]; congr 1; funext l; rw [e l]
             exact ih h2
        exact key (pre := []) hh
       ·cases hh
      ·cases hh
     ·cases hh
    ·cases hh
   ·cases hh
theorem a2k {H H1 : Heap} {f : Fr} {l : List Value} (hf : FAg f l) {v : Value} : ∀ {rs : List ResultVar} {qs : List LRes} {K : List Value → Rs}, lS P rs qs → (b1i H f qs K).Is v H1 → ∃ vs, eY P l H rs = some vs ∧ (K vs).Is v H1
 | [], [], K, _, h => ⟨[], rfl, h⟩
 | [], _ :: _, _, h, _ => h.elim
 | _ :: _, [], _, h, _ => h.elim
 | r :: rs, q :: qs, K, hl, h => by
   have h : (Rs.rec (motive := fun _ => Rs) .no (fun v _ => b1i H f qs fun l => K (v :: l)) (fun _ _ => .no) (zK H f q)).Is v H1 := h
   cases hq : zK H f q with
   | no => rw [hq] at h; exact absurd h Rs.no_is
   | th w H2 => exact absurd hq b3I
   | ok w H2 =>
     rw [hq] at h
     obtain ⟨e, h1, h2⟩ := a6q hf hl (.inl hq)
     obtain ⟨vs, h3, h4⟩ := a2k hf h2 h
     exact ⟨w :: vs, by simp [eY, h1, h3], h4⟩
theorem b0W {fn : Func} {H H1 : Heap} {f : Fr} {l : List Value} (hf : FAg f l) {qs : List LRes} (hl : lS P fn.results.toList qs) {v : Value} (h : (a3x qs f H).Is v H1) : H1 = H ∧ aD P fn l H = some v := by
 unfold a3x at h
 split at h
 ·rename_i q
  cases hr : fn.results.toList with
  | nil => rw [hr] at hl; exact hl.elim
  | cons r rs =>
    rw [hr] at hl
    obtain ⟨e, h1, h2⟩ := a6q hf hl h
    cases rs with
    | cons _ _ => exact h2.elim
    | nil => exact ⟨e, by simp [aD, hr, eY, h1]⟩
 ·rename_i hne
  obtain ⟨vs, h1, h2⟩ := a2k hf hl h
  obtain ⟨h3, h4⟩ := cV h2
  obtain ⟨rfl, rfl⟩ := Rs.ok_is h4
  refine ⟨rfl, ?_⟩
  have hlen : ∀ {rs : List ResultVar} {qs : List LRes}, lS P rs qs → rs.length = qs.length := by
   intro rs
   induction rs with
   | nil => intro qs h; cases qs with | nil => rfl | cons => exact h.elim
   | cons r rs ih => intro qs h; cases qs with | nil => exact h.elim | cons q qs => simp [ih h.2]
  have hvl : ∀ {rs : List ResultVar} {vs : List Value}, eY P l H1 rs = some vs → vs.length = rs.length := by
   intro rs
   induction rs with
   | nil => intro vs h; injection h with h; subst h; rfl
   | cons r rs ih =>
     intro vs h
     simp only [eY, Option.bind_eq_some_iff, Option.map_eq_some_iff] at h
     obtain ⟨w, _, ws, h1, h2⟩ := h
     subst h2
     simp [ih h1]
  have hn1 : vs.length ≠ 1 := by
   rw [hvl h1, hlen hl]
   intro h1
   match qs, h1 with
   | [q], _ => exact hne q rfl
  unfold aD
  rw [h1, Option.bind_some]
  rw [a6S] at h3
  have h3 : vs.all bP = true := by rw [← h3]; congr 1
  split
  ·exact absurd rfl hn1
  ·rw [if_pos h3]
structure FuncOk (P : Program) (f : FuncId) (g : LFunc) : Prop where
 ex : ∃ fn c, P.funcs[f]? = some fn ∧ fn.body = some c ∧ (fn.name == "runtime.NumGoroutine") = false ∧ g.ps = (List.range fn.ntmps).map cM ∧ Low P fn.ntmps c g.body ∧ lS P fn.results.toList g.res
def TOk (P : Program) (T : LT) : Prop := ∀ f g, uZ (cM f) T = some g → FuncOk P f g
def EOk (P : Program) (E : List LEnv) (H : Heap) : Prop := ∀ en ∈ E, en.L < H.length ∧ ∀ r, aQ H en.L = some (.loop r) →
 ∃ k, en.ps = (List.range k).map cM ∧ r.tmps.size = k ∧ en.pp = r.params.toList.map cM ∧ (∀ t ∈ r.params.toList, t < k) ∧ Low P k r.assign en.a ∧ Low P k r.body en.b
theorem EOk.keep {E : List LEnv} {H H' : Heap} (h : EOk P E H) (hk : LK H H') : EOk P E H' := fun en hen => by
 obtain ⟨h1, h2⟩ := h en hen
 refine ⟨Nat.lt_of_lt_of_le h1 hk.1, fun r' hr' => ?_⟩
 obtain ⟨r, hr, ea, eb, ep, et⟩ := hk.2 en.L r' h1 hr'
 obtain ⟨k, a, b, c, d, e, f⟩ := h2 r hr
 exact ⟨k, a, by rw [et]; exact b, by rw [ep]; exact c, by rw [ep]; exact d, by rw [ea]; exact e, by rw [eb]; exact f⟩
def zO (P : Program) (ih : iJ) : Prop := ∀ (E : List LEnv) (C : LCode) (k : Nat) (c : Code) (f : Fr) (l : List Value) (H : Heap) (e : Ex) (f1 : Fr) (H1 : Heap), Low P k c C → FRel k f l → EOk P E H → ih E C f H = .ok e f1 H1 →
 ∃ l1, FRel k f1 l1 ∧ Sim P c l H e l1 H1 ∧ LK H H1 ∧ ∀ b, c = .loop b → ∃ n, Rounds P b n l H e l1 H1
theorem rU {α : Type} {no : α} : ∀ {l : List Value} {i m : Nat} {f : Fr} {K : Fr → α}, (gF no l ((List.range' i m).map cM) f K = no) ∨ (l.length ≤ m ∧ ∃ f', gF no l ((List.range' i m).map cM) f K = K f' ∧ ∀ t, fI (cM t) f' = if i ≤ t ∧ t < i + l.length then get l (t - i) else fI (cM t) f)
 | [], i, m, f, K => .inr ⟨Nat.zero_le _, f, rfl, fun t => by rw [if_neg (by simp only [List.length_nil]; omega)]⟩
 | v :: l, i, 0, f, K => .inl rfl
 | v :: l, i, m + 1, f, K => by
   have e : gF no (v :: l) ((List.range' i (m + 1)).map cM) f K = hK v (cM i) f fun f => gF no l ((List.range' (i + 1) m).map cM) f K := by
    rw [List.range'_succ]; rfl
   rw [e, kE]
   rcases rU (l := l) (i := i + 1) (m := m) (f := b0F f i v) (K := K) with h | ⟨h1, f', h2, h3⟩
   ·exact .inl h
   ·refine .inr ⟨by simp; omega, f', h2, fun t => ?_⟩
    rw [h3 t, yJ]
    by_cases ht : t = i
    ·subst ht
     rw [if_neg (by omega), if_pos rfl, if_pos (by simp), Nat.sub_self]; rfl
    ·rw [if_neg ht]
     by_cases h4 : i + 1 ≤ t ∧ t < i + 1 + l.length
     ·rw [if_pos h4, if_pos (by simp; omega)]
      rw [show t - i = (t - (i + 1)) + 1 by omega]; rfl
     ·rw [if_neg h4, if_neg (by simp; omega)]
theorem nW {α : Type} {no : α} {k : Nat} : ∀ {args : List Value} {ps : List Tmp} {f : Fr} {l : List Value} {K : Fr → α}, FRel k f l → (∀ t ∈ ps, t < k) → args.length = ps.length →
 ∃ f', gF no args (ps.map cM) f K = K f' ∧ FRel k f' ((ps.zip args).foldl (fun t (p, v) => t.set p v) l)
 | [], [], f, l, K, hf, _, _ => ⟨f, rfl, hf⟩
 | v :: args, p :: ps, f, l, K, hf, hp, he => by
   have e : gF no (v :: args) ((p :: ps).map cM) f K = hK v (cM p) f fun f => gF no args (ps.map cM) f K := rfl
   rw [e, kE]
   exact nW (hf.set (hp p (by simp)) v) (fun t ht => hp t (by simp [ht])) (by simpa using he)
 | [], _ :: _, _, _, _, _, _, he => by simp at he
 | _ :: _, [], _, _, _, _, _, he => by simp at he
theorem rI (l : List Value) (n t : Nat) : get (l ++ List.replicate n undef) t = get l t := by
 rw [fN, fN]
 simp only [List.getD_eq_getElem?_getD]
 by_cases h : t < l.length
 ·rw [List.getElem?_append_left h]
 ·rw [List.getElem?_append_right (by omega), List.getElem?_eq_none (l := l) (by omega), List.getElem?_replicate]
  split <;> rfl
theorem sD {T : LT} (hT : TOk P T) {ih : iJ} (hih : zO P ih) {E : List LEnv} {p : Pth} {f : FuncId} {args : List Value} {H H1 : Heap} {v : Value} (hE : EOk P E H) (hp : p = cM f) (h : (eN T ih E p args H).Is v H1) :
 FnS P f args H (fun v' H' => v' = v ∧ H' = H1) ∧ LK H H1 := by
 unfold eN at h
 split at h
 case h_2 => exact absurd h Rs.no_is
 rename_i g hg
 subst hp
 obtain ⟨fn, c, hfn, hb, hn, hps, hlow, hres⟩ := (hT f g hg).ex
 rw [hps] at h
 rw [List.range_eq_range'] at h
 rcases rU (no := Rs.no) (l := args) (i := 0) (m := fn.ntmps) (f := .e) (K := fun f => b6G g.res (ih E g.body f H)) with h1 | ⟨h1, f0, h2, h3⟩
 ·rw [h1] at h; exact absurd h Rs.no_is
 ·rw [h2] at h
  have hf0 : FRel fn.ntmps f0 (args ++ List.replicate (fn.ntmps - args.length) undef) := by
   refine ⟨by simp; omega, fun t => ?_⟩
   rw [h3 t, rI]
   by_cases ht : t < args.length
   ·rw [if_pos (by omega)]; rfl
   ·rw [if_neg (by omega), mC, fN, List.getD_eq_getElem?_getD, List.getElem?_eq_none (by omega)]; try rfl
  cases hr : ih E g.body f0 H with
  | no => rw [hr] at h; exact absurd h Rs.no_is
  | ok e f1 H2 =>
    rw [hr] at h
    obtain ⟨l1, hf1, hs, hk, _⟩ := hih E g.body fn.ntmps c f0 _ H e f1 H2 hlow hf0 hE hr
    have key : (e = .normal ∨ e = .ret) → (a3x g.res f1 H2).Is v H1 → FnS P f args H (fun v' H' => v' = v ∧ H' = H1) ∧ LK H H1 := by
     intro he hv
     obtain ⟨rfl, hv⟩ := b0W hf1.2 hres hv
     exact ⟨⟨fn, c, e, l1, H1, v, hfn, hb, hn, hs, he, hv, rfl, rfl⟩, hk⟩
    cases e with
    | normal => exact key (.inl rfl) h
    | ret => exact key (.inr rfl) h
    | exit id => exact absurd h Rs.no_is
theorem b1Z {T : LT} (hT : TOk P T) {ih : iJ} (hih : zO P ih) {E : List LEnv} {p : Pth} {f : FuncId} {args : List Value} {H H1 : Heap} {v : Value} (hE : EOk P E H) (hp : p = cM f) (h : (b1B P T ih E p f args H).Is v H1) :
 (FnS P f args H (fun v' H' => v' = v ∧ H' = H1) ∨ iD P f args H = some (v, H1)) ∧ LK H H1 := by
 unfold b1B at h
 cases hg : uZ p T with
 | some g =>
   rw [hg] at h
   obtain ⟨a, b⟩ := sD (H1 := H1) (v := v) hT hih hE hp (by unfold eN; rw [hg]; exact h)
   exact ⟨.inl a, b⟩
 | none =>
   rw [hg] at h
   have h : (b8w P f args H).Is v H1 := h
   unfold b8w at h
   split at h
   ·rename_i v2 H2 hx
    obtain ⟨rfl, rfl⟩ := Rs.th_is h
    exact ⟨.inr hx, a0e hx⟩
   ·exact absurd h Rs.no_is
theorem a4R {E : List LEnv} {L : Nat} {en : LEnv} (h : a9X E L = some en) : en ∈ E ∧ en.L = L := by
 induction E with
 | nil => cases h
 | cons e E ih =>
   have h : fH (Nat.beq e.L L) (a9X E L) (some e) = some en := h
   rw [cE] at h
   split at h
   ·rename_i hh
    injection h with h
    subst h
    exact ⟨by simp, Nat.eq_of_beq_eq_true hh⟩
   ·obtain ⟨h1, h2⟩ := ih h
    exact ⟨List.mem_cons_of_mem _ h1, h2⟩
theorem a1l (e : Ex) : b5J e = jO e := by cases e <;> rfl
theorem a7g {ih : iJ} (hih : zO P ih) {E : List LEnv} {L : Nat} {args : List Value} {H H1 : Heap} {v : Value} (hE : EOk P E H) (h : (a4p ih E L args H).Is v H1) : pJ P L args H v H1 ∧ LK H H1 := by
 unfold a4p at h
 split at h
 case h_2 => exact absurd h Rs.no_is
 rename_i en hen
 obtain ⟨hmem, rfl⟩ := a4R hen
 split at h
 case h_2 => exact absurd h Rs.no_is
 rename_i p fn tmps ps a b d hg
 obtain ⟨hlen, h⟩ := cV h
 rw [qA] at hlen
 have hlen : ps.size = args.length := by simpa only [decide_eq_true_eq] using hlen
 obtain ⟨k, hps, hsz, hpp, hpk, hla, hlb⟩ := (hE en hmem).2 _ hg
 have hsz : tmps.length = k := by simpa using hsz
 rw [hps, List.range_eq_range'] at h
 rcases rU (no := Rs.no) (l := tmps) (i := 0) (m := k) (f := .e) (K := fun f => gF .no args en.pp f fun f => kR ih E en (ih E en.a f H)) with h1 | ⟨h1, f0, h2, h3⟩
 ·rw [h1] at h; exact absurd h Rs.no_is
 rw [h2] at h
 have hf0 : FRel k f0 tmps := by
  refine ⟨hsz, fun t => ?_⟩
  rw [h3 t]
  by_cases ht : t < tmps.length
  ·rw [if_pos (by omega)]; rfl
  ·rw [if_neg (by omega), mC, fN, List.getD_eq_getElem?_getD, List.getElem?_eq_none (by omega)]; try rfl
 rw [hpp] at h
 obtain ⟨f2, h4, hf2⟩ := nW (no := Rs.no) (args := args) (ps := ps.toList) (K := fun f => kR ih E en (ih E en.a f H)) hf0 hpk (by simpa using hlen.symm)
 have h : (gF Rs.no args (List.map cM ps.toList) f0 fun f => kR ih E en (ih E en.a f H)).Is v H1 := h
 rw [h4] at h
 cases hr1 : ih E en.a f2 H with
 | no => rw [hr1] at h; exact absurd h Rs.no_is
 | ok e f3 H2 =>
   rw [hr1] at h
   obtain ⟨l3, hf3, hs1, hk1, _⟩ := hih E en.a k a f2 _ H e f3 H2 hla hf2 hE hr1
   cases e with
   | ret => exact absurd h Rs.no_is
   | exit id => exact absurd h Rs.no_is
   | normal =>
     have h : (rX ih E en f3 H2).Is v H1 := h
     unfold rX at h
     split at h
     case h_2 => exact absurd h Rs.no_is
     rename_i p2 fn2 tmps2 ps2 a2 b2 d2 hg2
     rw [dQ] at h
     obtain ⟨r0, hr0, ea, eb, ep, et⟩ := hk1.2 en.L _ (hE en hmem).1 hg2
     rw [hg] at hr0
     injection hr0 with hr0
     injection hr0 with hr0
     subst hr0
     have ea' : a2 = a := ea
     have eb' : b2 = b := eb
     have ep' : ps2 = ps := ep
     have et' : tmps2 = ⟨tmps⟩ := et
     clear ea eb ep et
     subst ea' eb' ep' et'
     have hk2 : LK H2 (hset H2 en.L (.loop ⟨.busy, p2, fn2, ⟨tmps⟩, ps2, a2, b2, d2⟩)) := .loop hg2 ⟨rfl, rfl, rfl, rfl⟩
     cases hr2 : ih E en.b f3 (hset H2 en.L (.loop ⟨.busy, p2, fn2, ⟨tmps⟩, ps2, a2, b2, d2⟩)) with
     | no => rw [hr2] at h; exact absurd h Rs.no_is
     | ok e f4 H3 =>
       rw [hr2] at h
       obtain ⟨l4, _, hs2, hk3, _⟩ := hih E en.b k b2 f3 _ _ e f4 H3 hlb hf3 (hE.keep (hk1.trans hk2)) hr2
       have h : (uG en.L e H3).Is v H1 := h
       unfold uG at h
       split at h
       case h_2 => exact absurd h Rs.no_is
       rename_i st3 p3 fn3 tmps3 ps3 a3 b3 d3 hg3
       have fin : ∀ r', H1 = hset H3 en.L (.loop r') → (r' = { (⟨st3, p3, fn3, tmps3, ps3, a3, b3, d3⟩ : Loop) with state := if (jO e).isNone then .ready else .done, pending := jO e }) → v = .bool (jO e).isNone → pJ P en.L args H v H1 ∧ LK H H1 := by
        intro r' hH hr' hv
        refine ⟨?_, hk1.trans (hk2.trans (hk3.trans (by rw [hH]; exact .loop hg3 (by rw [hr']; exact ⟨rfl, rfl, rfl, rfl⟩))))⟩
        have hW := sL (P := P) (args := args) (K := fun v' H' => v' = v ∧ H' = H1) hg hlen rfl
         ⟨.normal, l3, H2, hs1, rfl, _, hg2, rfl, e, l4, H3, hs2, _, hg3, hv.symm, by rw [hH, hr']⟩
        obtain ⟨v', H', h1, rfl, rfl⟩ := hW
        exact h1
       split at h
       ·rename_i hj
        obtain ⟨rfl, rfl⟩ := Rs.th_is h
        rw [a1l] at hj
        exact fin _ rfl (by rw [hj]; rfl) (by rw [hj]; rfl)
       ·rename_i c hj
        obtain ⟨rfl, rfl⟩ := Rs.th_is h
        rw [a1l] at hj
        exact fin _ rfl (by rw [hj]; rfl) (by rw [hj]; rfl)
theorem yP {T : LT} (hT : TOk P T) {ih : iJ} (hih : zO P ih) {E : List LEnv} {H0 : Heap} (hE : EOk P E H0) : CallsOk P (rS P T ih E) H0 where
 fn p f args H v H1 hk h hp := b1Z hT hih (hE.keep hk) hp h
 rd L args H v H1 hk h := a7g hih (hE.keep hk) h
theorem b7V {α : Type} {f : Fr} {l : List Value} (hf : FAg f l) (i m : Nat) (K : List Value → α) : frL f ((List.range' i m).map cM) K = K ((List.range' i m).map (get l)) := by
 induction m generalizing i K with
 | zero => rfl
 | succ m ih =>
   have e : frL f ((List.range' i (m + 1)).map cM) K = fK (fI (cM i) f) fun v => frL f ((List.range' (i + 1) m).map cM) fun l => K (v :: l) := by
    rw [List.range'_succ]; rfl
   rw [e, eM, ih, hf i, List.range'_succ]; rfl
theorem b2Z {α : Type} {k : Nat} {f : Fr} {l : List Value} (hf : FRel k f l) (K : List Value → α) : frL f ((List.range k).map cM) K = K l := by
 rw [List.range_eq_range', b7V hf.2, ← List.range_eq_range']
 congr 1
 apply List.ext_getElem?
 intro i
 rw [List.getElem?_map]
 by_cases hi : i < k
 ·rw [List.getElem?_range hi, Option.map_some, fN, List.getD_eq_getElem?_getD]
  have : i < l.length := by rw [hf.1]; exact hi
  simp [List.getElem?_eq_getElem this]
 ·rw [List.getElem?_eq_none (by simp; omega), List.getElem?_eq_none (by rw [hf.1]; omega)]; rfl
theorem a8s {T : LT} (hT : TOk P T) {ih : iJ} (hih : zO P ih) {E : List LEnv} {k : Nat} {g : Operand} {ps : Array Tmp} {assign body : Code} {A B : LCode} (hg : aM g = true) (hps : ∀ t ∈ ps.toList, t < k) (ha : Low P k assign A) (hb : Low P k body B)
 {x1 x2 : Fr → Heap → Rc} {f : Fr} {l : List Value} {H : Heap} {e : Ex} {f1 : Fr} {H1 : Heap} (hf : FRel k f l) (hE : EOk P E H) (h : a4b T ih E (aT g) ((List.range k).map cM) (ps.toList.map cM) ps assign body A B x1 x2 f H = .ok e f1 H1) :
 f1 = f ∧ Sim P (.rangeFunc g ps assign body) l H e l H1 ∧ LK H H1 := by
 unfold a4b at h
 rw [bM hf.2] at h
 split at h
 case h_2 => cases h
 rename_i j xa xb hgv
 rw [bR, b2Z hf, dQ, bR] at h
 unfold a6f at h
 rw [dA] at h
 generalize hH0 : H.cons (.loop ⟨.ready, none, 0, ⟨l⟩, ps, assign, body, 0⟩) = H0 at h
 have hl0 : (⟨.ready, none, 0, ⟨l⟩, ps, assign, body, 0⟩ : Loop) = a6n l ps assign body := rfl
 have hE0 : EOk P (⟨H.length, (List.range k).map cM, ps.toList.map cM, A, B⟩ :: E) H0 := by
  intro en hen
  rcases List.mem_cons.1 hen with rfl | hen
  ·refine ⟨by rw [← hH0, length_cons]; exact Nat.lt_succ_self _, fun r hr => ?_⟩
   rw [← hH0, aK] at hr
   injection hr with hr
   injection hr with hr
   subst hr
   exact ⟨k, rfl, by simpa using hf.1, rfl, hps, ha, hb⟩
  ·exact (hE.keep (by rw [← hH0]; exact .cons _ _)) en hen
 have key : ∀ v H2, (eN T ih (⟨H.length, (List.range k).map cM, ps.toList.map cM, A, B⟩ :: E) (cM j) (a1c xa (.func (.yield H.length) #[] #[] :: xb)) H0).Is v H2 → mR H.length f H2 = .ok e f1 H1 → f1 = f ∧ Sim P (.rangeFunc g ps assign body) l H e l H1 ∧ LK H H1 := by
  intro v H2 hc hr
  obtain ⟨hfn, hk⟩ := sD hT hih hE0 rfl hc
  have hargs : a1c xa (.func (.yield H.length) #[] #[] :: xb) = xa ++ [.func (.yield H.length) #[] #[]] ++ xb := by rw [qH]; simp
  rw [hargs, ← hH0, hl0] at hfn
  have fin : ∀ (r : Loop) (H3 : Heap), aQ H2 H.length = some (.loop r) → r.state ≠ .busy → H3 = hset H2 H.length (.loop { r with state := .exhausted }) → (r.pending = none → e = .normal) → (∀ c, r.pending = some c → (c = .ret ∧ e = .ret) ∨ ∃ id, c = .exit id ∧ e = .exit id) → f1 = f → H1 = H3 →
   f1 = f ∧ Sim P (.rangeFunc g ps assign body) l H e l H1 ∧ LK H H1 := by
   intro r H3 hrl hnb hH3 hp0 hp1 he1 he2
   have hw : Wp P (.rangeFunc g ps assign body) l H (fun e' l' H' => e' = e ∧ l' = l ∧ H' = H3) := by
    refine Wp.range (first := xa) (captured := xb) hg (by rw [hgv]) (hfn.mono ?_)
    rintro v' H' ⟨rfl, rfl⟩
    refine ⟨r, hrl, hnb, fun hp => ⟨(hp0 hp).symm, rfl, hH3.symm⟩, fun c hc => ?_⟩
    rcases hp1 c hc with ⟨rfl, he⟩ | ⟨id, rfl, he⟩
    ·exact Wp.ret ⟨he.symm, rfl, hH3.symm⟩
    ·exact Wp.exit ⟨he.symm, rfl, hH3.symm⟩
   obtain ⟨e', l', H', hs, rfl, rfl, rfl⟩ := hw
   refine ⟨he1, by rw [he2]; exact hs, ?_⟩
   rw [he2, hH3]
   have h1 : LK H H0 := by rw [← hH0]; exact .cons _ _
   exact h1.trans (hk.trans (.loop hrl ⟨rfl, rfl, rfl, rfl⟩))
  unfold mR at hr
  split at hr
  ·rename_i hg2
   rw [dQ] at hr
   injection hr with h1 h2 h3
   exact fin _ _ hg2 (by simp) rfl (fun _ => h1.symm) (fun c hc => by cases hc) h2.symm h3.symm
  ·rename_i hg2
   rw [dQ] at hr
   injection hr with h1 h2 h3
   exact fin _ _ hg2 (by simp) rfl (fun _ => h1.symm) (fun c hc => by cases hc) h2.symm h3.symm
  ·rename_i hg2
   rw [dQ] at hr
   injection hr with h1 h2 h3
   exact fin _ _ hg2 (by simp) rfl (fun hc => by cases hc) (fun c hc => by injection hc with hc; subst hc; exact .inl ⟨rfl, h1.symm⟩) h2.symm h3.symm
  ·rename_i hg2
   rw [dQ] at hr
   injection hr with h1 h2 h3
   exact fin _ _ hg2 (by simp) rfl (fun hc => by cases hc) (fun c hc => by injection hc with hc; subst hc; exact .inr ⟨_, rfl, h1.symm⟩) h2.symm h3.symm
  ·cases hr
 cases hc : eN T ih (⟨H.length, (List.range k).map cM, ps.toList.map cM, A, B⟩ :: E) (cM j) (a1c xa (.func (.yield H.length) #[] #[] :: xb)) H0 with
 | no => rw [hc] at h; cases h
 | ok v H2 => rw [hc] at h; exact key v H2 (.inl hc) h
 | th v H2 =>
   rw [hc] at h
   have h : fF H2 (fun H => mR _ f H) = .ok e f1 H1 := h
   rw [dQ] at h
   exact key v H2 (.inr hc) h
theorem b8p (cD : P.follows .mixedOrders = true) {T : LT} (hT : TOk P T) : ∀ n, zO P (sP P T n) := by
 intro n
 induction n with
 | zero => intro E C k c f l H e f1 H1 _ _ _ h; cases h
 | succ n ih =>
   intro E C k c f l H e f1 H1 hlow hf hE h
   have h : a6u P T (sP P T n) E C f H = .ok e f1 H1 := h
   have noloop : ∀ {c : Code}, (∀ b, c ≠ .loop b) → ∀ {l1 : List Value}, ∀ b, c = .loop b → ∃ n, Rounds P b n l H e l1 H1 := fun hne _ b hb => absurd hb (hne b)
   cases hlow with
   | bad => cases h
   | skip =>
     injection h with h1 h2 h3; subst h1 h2 h3
     exact ⟨l, hf, .skip l H, .refl H, noloop (by intro b h; cases h)⟩
   | label t =>
     injection h with h1 h2 h3; subst h1 h2 h3
     exact ⟨l, hf, .label t l H, .refl H, noloop (by intro b h; cases h)⟩
   | exit id =>
     injection h with h1 h2 h3; subst h1 h2 h3
     exact ⟨l, hf, .exit id l H, .refl H, noloop (by intro b h; cases h)⟩
   | ret =>
     injection h with h1 h2 h3; subst h1 h2 h3
     exact ⟨l, hf, .ret l H, .refl H, noloop (by intro b h; cases h)⟩
   | @reg id ops d lo hlo hd =>
     have h : c1F (pV P (rS P T (sP P T n) E) lo f H) = .ok e f1 H1 := h
     cases hr : pV P (rS P T (sP P T n) E) lo f H with
     | no => rw [hr] at h; cases h
     | ok f2 H2 =>
       rw [hr] at h
       injection h with h1 h2 h3; subst h1 h2 h3
       obtain ⟨l1, hf1, hops, hk⟩ := b4P (yP hT ih hE) hlo (i := 0) rfl hf (.refl H) hr
       have hops : OpsR P ops (List.range ops.size) l H l1 H2 := by rw [List.range_eq_range']; simpa using hops
       refine ⟨l1, hf1, ?_, hk, noloop (by intro b h; cases h)⟩
       cases d with
       | false => exact .region hops
       | true => exact .draw0 cD (hd rfl) hops
   | drw hlo ht hl =>
     obtain ⟨l1, rfl, hf1, hs, hk⟩ := b3z cD (yP hT ih hE) hlo ht hl hf h
     exact ⟨l1, hf1, hs, hk, noloop (by intro b h; cases h)⟩
   | @seq a b A B ha hb =>
     have h : b4v (sP P T n) E B (sP P T n E A f H) = .ok e f1 H1 := h
     cases hr : sP P T n E A f H with
     | no => rw [hr] at h; cases h
     | ok e2 f2 H2 =>
       rw [hr] at h
       obtain ⟨l2, hf2, hs, hk, _⟩ := ih E A k a f l H e2 f2 H2 ha hf hE hr
       cases e2 with
       | normal =>
         obtain ⟨l1, hf1, hs1, hk1, _⟩ := ih E B k b f2 l2 H2 e f1 H1 hb hf2 (hE.keep hk) h
         exact ⟨l1, hf1, .seq hs hs1, hk.trans hk1, noloop (by intro b h; cases h)⟩
       | ret =>
         injection h with h1 h2 h3; subst h1 h2 h3
         exact ⟨l2, hf2, .seq' hs (by intro h; cases h), hk, noloop (by intro b h; cases h)⟩
       | exit id =>
         injection h with h1 h2 h3; subst h1 h2 h3
         exact ⟨l2, hf2, .seq' hs (by intro h; cases h), hk, noloop (by intro b h; cases h)⟩
   | @cond c x y X Y hc hx hy =>
     have h : b0u (sP P T n) E (aT c) X Y (a6u P T (sP P T n) E X) (a6u P T (sP P T n) E Y) f H = .ok e f1 H1 := h
     unfold b0u at h
     rw [bM hf.2] at h
     split at h
     ·rename_i t ht
      cases t with
      | true =>
        obtain ⟨l1, hf1, hs, hk, _⟩ := ih E X k x f l H e f1 H1 hx hf hE h
        exact ⟨l1, hf1, .cond ht hc hs, hk, noloop (by intro b h; cases h)⟩
      | false =>
        obtain ⟨l1, hf1, hs, hk, _⟩ := ih E Y k y f l H e f1 H1 hy hf hE h
        exact ⟨l1, hf1, .cond ht hc hs, hk, noloop (by intro b h; cases h)⟩
     ·cases h
   | @block id b B hb =>
     have h : c0t id (sP P T n E B f H) = .ok e f1 H1 := h
     cases hr : sP P T n E B f H with
     | no => rw [hr] at h; cases h
     | ok e2 f2 H2 =>
       rw [hr] at h
       obtain ⟨l2, hf2, hs, hk, _⟩ := ih E B k b f l H e2 f2 H2 hb hf hE hr
       have hs' : Sim P (.block id b) l H (e2.out id) l2 H2 := .block hs
       cases e2 with
       | normal => injection h with h1 h2 h3; subst h1 h2 h3; exact ⟨l2, hf2, hs', hk, noloop (by intro b h; cases h)⟩
       | ret => injection h with h1 h2 h3; subst h1 h2 h3; exact ⟨l2, hf2, hs', hk, noloop (by intro b h; cases h)⟩
       | exit i =>
         have h : Rc.ok (Bool.rec (motive := fun _ => Ex) (.exit i) .normal (Nat.beq i id)) f2 H2 = .ok e f1 H1 := h
         injection h with h1 h2 h3; subst h2 h3
         have : (Ex.exit i).out id = e := by
          rw [← h1]
          by_cases hi : i = id
          ·subst hi; simp [Ex.out]
          ·have : Nat.beq i id = false := Bool.eq_false_iff.2 fun e => hi (Nat.eq_of_beq_eq_true e)
           simp [Ex.out, hi, this]
         rw [this] at hs'
         exact ⟨l2, hf2, hs', hk, noloop (by intro b h; cases h)⟩
   | @loop b B hb =>
     have h : b4v (sP P T n) E (.loop B) (sP P T n E B f H) = .ok e f1 H1 := h
     cases hr : sP P T n E B f H with
     | no => rw [hr] at h; cases h
     | ok e2 f2 H2 =>
       rw [hr] at h
       obtain ⟨l2, hf2, hs, hk, _⟩ := ih E B k b f l H e2 f2 H2 hb hf hE hr
       have last : e2 ≠ .normal → e2 = e → f2 = f1 → H2 = H1 → ∃ l1, FRel k f1 l1 ∧ Sim P (.loop b) l H e l1 H1 ∧ LK H H1 ∧ ∀ b', Code.loop b = .loop b' → ∃ n, Rounds P b' n l H e l1 H1 := by
        intro hne h1 h2 h3
        subst h1 h2 h3
        have hr : Rounds P b 1 l H e2 l2 H2 := .last hs hne
        exact ⟨l2, hf2, .loop hr, hk, fun b' hb' => by injection hb' with hb'; subst hb'; exact ⟨1, hr⟩⟩
       cases e2 with
       | normal =>
         obtain ⟨l1, hf1, hs1, hk1, hro⟩ := ih E (.loop B) k (.loop b) f2 l2 H2 e f1 H1 (.loop hb) hf2 (hE.keep hk) h
         obtain ⟨m, hm⟩ := hro b rfl
         have hr : Rounds P b (m + 1) l H e l1 H1 := .more hs hm
         exact ⟨l1, hf1, .loop hr, hk.trans hk1, fun b' hb' => by injection hb' with hb'; subst hb'; exact ⟨_, hr⟩⟩
       | ret => injection h with h1 h2 h3; exact last (by intro h; cases h) h1 h2 h3
       | exit id => injection h with h1 h2 h3; exact last (by intro h; cases h) h1 h2 h3
   | range hg hps ha hb =>
     obtain ⟨rfl, hs, hk⟩ := a8s (x1 := fun _ _ => .no) (x2 := fun _ _ => .no) hT ih hg hps ha hb hf hE h
     exact ⟨l, hf, hs, hk, noloop (by intro b h; cases h)⟩
theorem pI {α : Type} (v : LFunc) (p : Pth) (f : LT) (K : LT → α) : jS v p f K = K (jS v p f fun f => f) := by
 induction p generalizing f α with
 | z => cases f <;> rfl
 | l p ih =>
   cases f with
   | e =>
     show jS v p .e (fun l => K (.n none l .e)) = K (jS v p .e fun l => .n none l .e)
     rw [ih, ih (K := fun l => LT.n none l .e)]
   | n w l r =>
     show jS v p l (fun l => K (.n w l r)) = K (jS v p l fun l => .n w l r)
     rw [ih, ih (K := fun l => LT.n w l r)]
 | r p ih =>
   cases f with
   | e =>
     show jS v p .e (fun l => K (.n none .e l)) = K (jS v p .e fun l => .n none .e l)
     rw [ih, ih (K := fun l => LT.n none .e l)]
   | n w l r =>
     show jS v p r (fun r => K (.n w l r)) = K (jS v p r fun r => .n w l r)
     rw [ih, ih (K := fun r => LT.n w l r)]
theorem oJ (p : Pth) : uZ p .e = none := by cases p <;> rfl
theorem a7j (v : LFunc) (p q : Pth) (f : LT) {g : LFunc} (h : uZ q (jS v p f fun f => f) = some g) : (q = p ∧ g = v) ∨ uZ q f = some g := by
 induction p generalizing f q with
 | z =>
   cases q with
   | z => left; refine ⟨rfl, ?_⟩; cases f <;> (injection h with h; exact h.symm)
   | l q => right; cases f with
     | e => have h : uZ q .e = some g := h
            rw [oJ] at h; cases h
     | n => exact h
   | r q => right; cases f with
     | e => have h : uZ q .e = some g := h
            rw [oJ] at h; cases h
     | n => exact h
 | l p ih =>
   have h1 : ∀ f, jS v (.l p) f (fun f => f) = match f with | .e => .n none (jS v p .e fun f => f) .e | .n w l r => .n w (jS v p l fun f => f) r := fun f => by
    cases f with
    | e => exact pI v p .e fun l => LT.n none l .e
    | n w l r => exact pI v p l fun l => LT.n w l r
   rw [h1] at h
   cases q with
   | z => right; cases f with
     | e => exact h
     | n => exact h
   | r q => right; cases f with
     | e => have h : uZ q .e = some g := h
            rw [oJ] at h; cases h
     | n => exact h
   | l q =>
     cases f with
     | e =>
       rcases ih q .e h with ⟨rfl, hq⟩ | h
       ·exact .inl ⟨rfl, hq⟩
       ·rw [oJ] at h; cases h
     | n w l r =>
       rcases ih q l h with ⟨rfl, hq⟩ | h
       ·exact .inl ⟨rfl, hq⟩
       ·exact .inr h
 | r p ih =>
   have h1 : ∀ f, jS v (.r p) f (fun f => f) = match f with | .e => .n none .e (jS v p .e fun f => f) | .n w l r => .n w l (jS v p r fun f => f) := fun f => by
    cases f with
    | e => exact pI v p .e fun l => LT.n none .e l
    | n w l r => exact pI v p r fun r => LT.n w l r
   rw [h1] at h
   cases q with
   | z => right; cases f with
     | e => exact h
     | n => exact h
   | l q => right; cases f with
     | e => have h : uZ q .e = some g := h
            rw [oJ] at h; cases h
     | n => exact h
   | r q =>
     cases f with
     | e =>
       rcases ih q .e h with ⟨rfl, hq⟩ | h
       ·exact .inl ⟨rfl, hq⟩
       ·rw [oJ] at h; cases h
     | n w l r =>
       rcases ih q r h with ⟨rfl, hq⟩ | h
       ·exact .inl ⟨rfl, hq⟩
       ·exact .inr h
theorem a7H {α : Type} (f : FuncId) (no : α) (K : LFunc → α) : (∃ g, FuncOk P f g ∧ uW P f no K = K g) ∨ uW P f no K = no := by
 unfold uW
 split
 ·rename_i fn hfn
  split
  ·rename_i c hb
   rw [cE]
   split
   ·exact .inr rfl
   ·rename_i hn
    rcases b1Q (P := P) fn.results.toList (fun res => a6Z fn.ntmps fun ps => eT P fn.ntmps c fun b => K ⟨ps, b, res⟩) no with ⟨res, hres, h1⟩ | h1
    ·rw [h1, a6l]
     obtain ⟨C, hC, h2⟩ := a8o (P := P) fn.ntmps c (fun b => K ⟨(List.range fn.ntmps).map cM, b, res⟩)
     exact .inl ⟨⟨_, C, res⟩, ⟨fn, c, hfn, hb, by simpa using hn, rfl, hC, hres⟩, h2⟩
    ·exact .inr h1
  ·exact .inr rfl
 ·exact .inr rfl
theorem b1T {α : Type} (fs : List FuncId) (T : LT) (hT : TOk P T) (K : LT → α) : ∃ T', TOk P T' ∧ lF P fs T K = K T' := by
 induction fs generalizing T with
 | nil => exact ⟨T, hT, rfl⟩
 | cons f fs ih =>
   have e : lF P (f :: fs) T K = uW P f (lF P fs T K) fun g => dD (cM f) fun p => jS g p T fun T => lF P fs T K := rfl
   rw [e]
   rcases a7H (P := P) f (lF P fs T K) (fun g => dD (cM f) fun p => jS g p T fun T => lF P fs T K) with ⟨g, hg, h⟩ | h
   ·rw [h, dA, pI]
    refine ih _ fun f' g' h' => ?_
    rcases a7j g (cM f) (cM f') T h' with ⟨he, rfl⟩ | h'
    ·rw [a6m he]; exact hg
    ·exact hT f' g' h'
   ·rw [h]; exact ih T hT
end Go.Ds
namespace Go.Ds
open Go.Proofs
def t64 : List Nat := [0, 1, 56, 2, 57, 49, 28, 3, 61, 58, 42, 50, 38, 29, 17, 4, 62, 47, 59, 36, 45, 43, 51, 22, 53, 39, 33, 30, 24, 18, 12, 5, 63, 55, 48, 27, 60, 41, 37, 16, 46, 35, 44, 21, 52, 32, 23, 11, 54, 26, 40, 15, 34, 20, 31, 10, 25, 14, 19, 9, 13, 8, 7, 6]
def t32 : List Nat := [0, 1, 28, 2, 29, 14, 24, 3, 30, 22, 20, 15, 25, 17, 4, 8, 31, 27, 13, 23, 21, 19, 16, 7, 26, 12, 18, 6, 11, 5, 10, 9]
noncomputable def gH : Heap := ((((Heap.nil.cons (.cells (t64.map fun (n : Nat) => Value.int .u8 (.ofNat n)) 5 false 0 1)).cons (.cells [] 3 false 0 1)).cons (.cells ([1, 10, 100, 1000, 10000, 100000, 1000000, 10000000, 100000000, 1000000000, 10000000000, 100000000000, 1000000000000, 10000000000000, 100000000000000, 1000000000000000, 10000000000000000, 100000000000000000, 1000000000000000000, 10000000000000000000].map fun (n : Nat) => Value.int .u64 (.ofNat n)) 54 false 0 1)).cons (.cells (t32.map fun (n : Nat) => Value.int .u8 (.ofNat n)) 5 false 0 1))
theorem c2a : Tryz.prog.follows .mixedOrders = true := by kernel_rfl
def a7M : Nat → Nat → List UInt8 → List UInt8
 | 0, _, acc => acc
 | f + 1, n, acc => if n < 10 then (48 + n).toUInt8 :: acc else a7M f (n / 10) ((48 + n % 10).toUInt8 :: acc)
def gK (n : Nat) : ByteArray := ⟨(a7M 100 n []).toArray⟩
theorem a0u {b : ByteArray} {n : Nat} (h : b.data.toList = a7M 100 n []) : b = gK n := by
 cases b with | mk d => cases d with | mk l => simp only at h; subst h; rfl
def a6g (r : Rs) (n : Nat) : Bool := match r with
 | .ok (.string b) _ => decide (b.data.toList = a7M 100 n [])
 | .th (.string b) _ => decide (b.data.toList = a7M 100 n [])
 | _ => false
def b3U (v : Value) (n : Nat) : Bool := match v with
 | .tuple vs => match vs.toList with
   | [.string b, .int .i64 m] => decide (m = 0) && decide (b.data.toList = a7M 100 n [])
   | _ => false
 | _ => false
def b2j (r : Rs) (n : Nat) : Bool := match r with
 | .ok v _ => b3U v n
 | .th v _ => b3U v n
 | _ => false
def b2b (r : Rs) (n : Int) : Bool := match r with
 | .ok (.int .i64 m) _ => decide (m = n)
 | .th (.int .i64 m) _ => decide (m = n)
 | _ => false
noncomputable def b5A (ps : List Nat) : Bool := lF Tryz.prog [199, 226, 239, 248, 281, 313, 327, 328, 329, 330, 333, 334, 335, 336, 337] .e fun T => ps.all fun x => a6g (eN T (sP Tryz.prog T 4000) [] (cM 226) [.int .i64 x] gH) x
def fsP : List Nat := [199, 206, 207, 208, 213, 225, 239, 249, 250, 263, 264, 269, 270, 271, 272, 275, 282, 283, 296, 297, 298, 299, 300, 301, 302, 318, 319, 320, 321, 327, 328, 329, 330, 333, 334, 335, 336, 337]
noncomputable def mM (ps : List Nat) : Bool := lF Tryz.prog fsP .e fun T => ps.all fun x => b2j (eN T (sP Tryz.prog T 4000) [] (cM 225) [.string (gK x), .int .i64 24] gH) (x ^ 24)
def fsM : List Nat := [199, 206, 207, 208, 213, 226, 227, 239, 248, 249, 250, 263, 264, 269, 270, 271, 272, 273, 275, 281, 282, 283, 296, 297, 298, 299, 300, 301, 302, 313, 318, 319, 320, 321, 327, 328, 329, 330, 333, 334, 335, 336, 337]
noncomputable def dN (ps : List (Nat × Nat)) : Bool := lF Tryz.prog fsM .e fun T => ps.all fun x => a6g (eN T (sP Tryz.prog T 4000) [] (cM 227) [.string (gK x.1), .string (gK x.2)] gH) (x.1 * x.2)
def jT (t : Nat × Nat) : List (Nat × Nat) := (t.1 ^ 24, 2) :: (List.range t.2).map fun k => (2 * t.1 ^ 24 * 4 ^ k, 4)
def a1x (t : Nat × Nat × Nat) : List (Nat × Nat) := (List.range (t.2.2 + 1)).map fun k => (t.1 ^ 24, 2 * t.2.1 ^ 24 * 4 ^ k)
def b1j (a b : Nat) : Int := if a < b then -1 else if b < a then 1 else 0
noncomputable def lX (ps : List (Nat × Nat)) : Bool := lF Tryz.prog [228, 274, 275, 276, 301, 302, 303, 321, 322] .e fun T => ps.all fun x => b2b (eN T (sP Tryz.prog T 4000) [] (cM 228) [.string (gK x.1), .string (gK x.2)] gH) (b1j x.1 x.2)
end Go.Ds
namespace Go.Ds
open Go.RowKit Go.Proofs
section
variable {P : Program} {ρ : Rho} {H : Heap} {w : World}
theorem yO {name : String} {g : Nat} {k : IntKind} {zs : List Int} (hg : P.globalNamed name = some g) (ht : Lib.TabIs P w name k zs) : ∃ t fr, w.heap[g]? = some (.cells (zs.map fun z => Value.int k z).toArray t fr) := by
 unfold Lib.TabIs World.var? at ht
 rw [hg, Option.bind_some] at ht
 split at ht
 ·rename_i cs t fr hb
  obtain rfl := Option.some.inj ht
  exact ⟨t, fr, hb⟩
 ·cases ht
theorem InW.tab (h : InW P ρ H w) {name : String} {g : Nat} {k : IntKind} {zs : List Int} {ty : TypeId} (hg : P.globalNamed name = some g) (ht : Lib.TabIs P w name k zs) (hgH : g = H.length) (hty : aE P ty = some 1) :
 InW P (ρ.put H.length (zs.map fun z => Value.int k z).length ⟨g, 0, zs.length, 1⟩) (H.cons (.cells (zs.map fun z => Value.int k z) ty false 0 1)) w := by
 obtain ⟨t, fr, hb⟩ := yO hg ht
 refine (h.row ⟨g, 0, zs.length, 1⟩ hb (ty := ty) hty (by simp) (zs.map fun z => Value.int k z) 1 (fun _ => ⟨hgH, rfl⟩) (by simp) fun i c hi _ hc => ⟨c, ?_, ?_⟩).1
 ·have : (⟨g, 0, zs.length, 1⟩ : Place).at i = i := by simp [Place.at]
  rw [this]
  simpa using hc
 ·rw [List.getElem?_map] at hc
  obtain ⟨z, _, rfl⟩ := Option.map_eq_some_iff.1 hc
  exact .c0 (.flat rfl)
end
theorem b9n : ∀ A b, aQ gH A = some b → ∃ cs ty lo, b = .cells cs ty false lo 1 ∧ cB cs = true := by
 intro A b h
 unfold gH at h
 have hn : ∀ (H : Heap) (c : Blk), aQ (H.cons c) A = some b → (A = H.length ∧ b = c) ∨ aQ H A = some b := fun H c h => by
  by_cases he : A = H.length
  ·subst he; rw [aK] at h; exact .inl ⟨rfl, (Option.some.inj h).symm⟩
  ·have hA : A < (H.cons c).length := bG h
   rw [length_cons] at hA
   rw [bO _ (by omega)] at h
   exact .inr h
 rcases hn _ _ h with ⟨_, rfl⟩ | h
 ·exact ⟨_, _, _, rfl, by kernel_rfl⟩
 rcases hn _ _ h with ⟨_, rfl⟩ | h
 ·exact ⟨_, _, _, rfl, by kernel_rfl⟩
 rcases hn _ _ h with ⟨_, rfl⟩ | h
 ·exact ⟨_, _, _, rfl, by kernel_rfl⟩
 rcases hn _ _ h with ⟨_, rfl⟩ | h
 ·exact ⟨_, _, _, rfl, by kernel_rfl⟩
 ·have : A < 0 := bG h
  omega
theorem ExtW.glob {ρ ρ' : Rho} {H' : Heap} (h : ExtW ρ gH ρ' H') : Glob gH H' := ⟨h.len, fun A hA => h.old A hA, b9n⟩
def p10 : List Int := [1, 10, 100, 1000, 10000, 100000, 1000000, 10000000, 100000000, 1000000000, 10000000000, 100000000000, 1000000000000, 10000000000000, 100000000000000, 1000000000000000, 10000000000000000, 100000000000000000, 1000000000000000000, 10000000000000000000]
theorem g64 : Tryz.prog.globalNamed "math/bits.deBruijn64tab" = some 0 := by kernel_rfl
theorem kV : Tryz.prog.globalNamed "internal/strconv.uint64pow10" = some 2 := by kernel_rfl
theorem g32 : Tryz.prog.globalNamed "math/bits.deBruijn32tab" = some 3 := by kernel_rfl
theorem b4C {w : World} (h64 : Lib.TabIs Tryz.prog w "math/bits.deBruijn64tab" .u8 (t64.map Int.ofNat)) (h10 : Lib.TabIs Tryz.prog w "internal/strconv.uint64pow10" .u64 p10)
 (h32 : Lib.TabIs Tryz.prog w "math/bits.deBruijn32tab" .u8 (t32.map Int.ofNat)) (h1001 : ∃ cs t fr, w.heap[1]? = some (.cells cs t fr)) : ∃ ρ, InW Tryz.prog ρ gH w := by
 have a0 := (InW.none (P := Tryz.prog) w).tab g64 h64 (ty := 5) rfl (by kernel_rfl)
 obtain ⟨cs1, t1, fr1, hb1⟩ := h1001
 have a1 := (a0.row ⟨1, 0, cs1.size, 1⟩ hb1 (ty := 3) (by kernel_rfl) rfl [] 1 (fun _ => ⟨rfl, rfl⟩) (by simp) (fun i c hi => by simp at hi)).1
 have a2 := a1.tab kV h10 (ty := 54) rfl (by kernel_rfl)
 have a3 := a2.tab g32 h32 (ty := 5) rfl (by kernel_rfl)
 exact ⟨_, a3⟩
end Go.Ds
namespace Go.Ds
noncomputable section
variable {P : Program} {H0 : Base} {H : Heap} {os : List Ob} {κ β : Type} [DecidableEq κ] {enc : κ → Value} {f : β → Value} {t : TypeId} {z : Value}
structure MapK (P : Program) (t : TypeId) {κ : Type} [DecidableEq κ] (enc : κ → Value) (z : Value) : Prop where
 ex : ∃ kt et, sK P t = some (kt, et) ∧ aZ P et = some z ∧ aY z = true ∧ (∀ b k, vT P b kt (enc k) = true) ∧
  (∀ k (es : List MapEntry) (ks : List κ), es.map (·.key) = ks.map enc → lC P kt (enc k) es = some (ks.findIdx? fun x => decide (x = k))) ∧ ∀ k, Instr.sameBits 10000 (enc k) (enc k) = true
def kcs (enc : κ → Value) (f : β → Value) (kvs : List (κ × β)) : List Value := kvs.flatMap fun p => [enc p.1, f p.2]
def vX (kvs : List (κ × β)) (k : κ) : Option β := (kvs.find? fun p => decide (p.1 = k)).map (·.2)
def a1i (kvs : List (κ × β)) (k : κ) (v : β) : List (κ × β) := match kvs.findIdx? (fun p => decide (p.1 = k)) with
 | some j => kvs.set j (k, v)
 | none => kvs ++ [(k, v)]
theorem a0r : ∀ (es : List MapEntry) (kvs : List (κ × β)), kcs enc f kvs = mcs es → es.map (·.key) = kvs.map (fun p => enc p.1) ∧ es.map (·.val) = kvs.map (fun p => f p.2)
 | [], [], _ => ⟨rfl, rfl⟩
 | [], p :: kvs, h => by simp [kcs, mcs] at h
 | e :: es, [], h => by simp [kcs, mcs] at h
 | e :: es, p :: kvs, h => by
   simp only [kcs, mcs, List.flatMap_cons, List.cons_append, List.nil_append, List.cons.injEq] at h
   obtain ⟨h1, h2, h3⟩ := h
   obtain ⟨h4, h5⟩ := a0r es kvs h3
   simp only [List.map_cons]
   exact ⟨by rw [h4, h1], by rw [h5, h2]⟩
theorem a3H : ∀ (es : List MapEntry) (kvs : List (κ × β)), es.map (·.key) = kvs.map (fun p => enc p.1) → es.map (·.val) = kvs.map (fun p => f p.2) → kcs enc f kvs = mcs es
 | [], [], _, _ => rfl
 | [], p :: kvs, h, _ => by simp at h
 | e :: es, [], h, _ => by simp at h
 | e :: es, p :: kvs, h, h' => by
   simp only [List.map_cons, List.cons.injEq] at h h'
   have := a3H es kvs h.2 h'.2
   simp only [kcs, mcs, List.flatMap_cons] at this ⊢
   rw [this, h.1, h'.1]
theorem St.mcell (hS : St P H0 H os) (i : Nat) {A : Nat} {cs : List Value} (ho : os[i]? = some ⟨.map (some A), 0, cs⟩) : ∃ es ck ver, aQ H A = some (.map es ck ver) ∧ cs = mcs es := by
 have := hS.own _ (List.mem_of_getElem? ho)
 unfold OwnAt at this
 rw [if_pos rfl] at this
 rcases this with ⟨_, _, _, _, _, _, h⟩ | ⟨A', es, ck, ver, h1, h2, h3⟩
 ·cases h
 ·simp only [Value.map.injEq, Option.some.injEq] at h3
  subst h3
  exact ⟨es, ck, ver, h1, h2⟩
theorem a6a (kvs : List (κ × β)) (k : κ) : (∃ j x, (kvs.map (·.1)).findIdx? (fun x => decide (x = k)) = some j ∧ kvs[j]? = some x ∧ kvs.find? (fun p => decide (p.1 = k)) = some x) ∨ ((kvs.map (·.1)).findIdx? (fun x => decide (x = k)) = none ∧ kvs.find? (fun p => decide (p.1 = k)) = none) := by
 induction kvs with
 | nil => exact .inr ⟨rfl, rfl⟩
 | cons p kvs ih =>
   by_cases h : p.1 = k
   ·exact .inl ⟨0, p, by simp [List.findIdx?_cons, h], rfl, by simp [h]⟩
   ·rcases ih with ⟨j, x, h1, h2, h3⟩ | ⟨h1, h2⟩
    ·exact .inl ⟨j + 1, x, by simp [List.findIdx?_cons, h, h1], by simpa using h2, by simp [h, h3]⟩
    ·exact .inr ⟨by simp [List.findIdx?_cons, h, h1], by simp [h, h2]⟩
theorem St.lku (hS : St P H0 H os) (i : Nat) {A : Nat} {kvs : List (κ × β)} (ho : os[i]? = some ⟨.map (some A), 0, kcs enc f kvs⟩) (hk : MapK P t enc z) (hf : ∀ b, fG (f b) = true) (c : Bool) (k : κ) :
 gN P H t (.map (some A)) (enc k) c = some (pairV c (((vX kvs k).map f).getD z) (vX kvs k).isSome) := by
 obtain ⟨kt, et, h1, h2, h3, h4, h5, h6⟩ := hk.ex
 obtain ⟨es, ck, ver, h7, h8⟩ := hS.mcell i ho
 obtain ⟨h9, h10⟩ := a0r es kvs h8
 have hi := h5 k es (kvs.map (·.1)) (by rw [h9]; simp [Function.comp_def])
 simp only [gN, h1, Option.bind_some, wU, h7, h4, if_true, hi, vX]
 rcases a6a kvs k with ⟨j, x, e1, e2, e3⟩ | ⟨e1, e3⟩
 ·have hj : es[j]?.map (·.val) = some (f x.2) := by
   rw [← List.getElem?_map, h10, List.getElem?_map, e2]; rfl
  cases he : es[j]? with
  | none => rw [he] at hj; simp at hj
  | some e =>
    rw [he] at hj
    simp only [Option.map_some, Option.some.injEq] at hj
    simp only [e1, he, Option.bind_some, hj, hf, if_true, e3, Option.map_some, Option.getD_some, Option.isSome_some]
 ·simp only [e1, e3, Option.map_none, Option.getD_none, Option.isSome_none, h2, Option.bind_some, h3, if_true]
def a1N (P : Program) (H : Heap) (t : TypeId) (x k : Value) (c : Bool) (K : Value → Prop) (_k : Keep K := ⟨⟩) : Prop := ∃ v, gN P H t x k c = some v ∧ K v
theorem a1r {t : TypeId} {x x' k k' : Value} {c : Bool} {K : Value → Prop} (h : x = x') (h2 : k = k') : a1N P H t x k c K = a1N P H t x' k' c K := by rw [h, h2]
attribute [congr] a1r
theorem a5O (d ty pos af g) (t : TypeId) (x k : Operand) (c : Bool) (l : List Value) (K : Value → Heap → Prop) :
 dU P ⟨d, .lookup t x k c, ty, pos, af, g⟩ l H K = bH x l fun x => bH k l fun k => a1N P H t x k c fun v => K v H := by
 have h2 : bZ ((gN P H t (ev l x) (ev l k) c).map fun v => (v, H)) K = ∃ v, gN P H t (ev l x) (ev l k) c = some v ∧ K v H := by
  cases gN P H t (ev l x) (ev l k) c <;> simp [bZ]
 simp only [dU, opD, bH, Op.operands, a1N, h2]
 simp [and_assoc]
theorem St.eLook (hS : St P H0 H os) (i : Nat) {A : Nat} {kvs : List (κ × β)} (ho : os[i]? = some ⟨.map (some A), 0, kcs enc f kvs⟩) (hk : MapK P t enc z) (hf : ∀ b, fG (f b) = true) {c : Bool} {k : κ} {K : Value → Prop}
 (h : K (pairV c (((vX kvs k).map f).getD z) (vX kvs k).isSome)) : a1N P H t (.map (some A)) (enc k) c K := ⟨_, hS.lku i ho hk hf c k, h⟩
def a0c (P : Program) (H : Heap) (t : TypeId) (K : Value → Heap → Prop) (_k : Keep K := ⟨⟩) : Prop := ∃ v H1, gV P H t none = some (v, H1) ∧ K v H1
theorem a1X (d ty pos af g) (t : TypeId) (l : List Value) (K : Value → Heap → Prop) : dU P ⟨d, .makeMap t none, ty, pos, af, g⟩ l H K = a0c P H t K := by
 simp only [dU, opD, Op.operands, a0c, eX]
 simp
theorem St.eMap (hS : St P H0 H os) (hk : MapK P t enc z) {K : Value → Heap → Prop} (h : ∀ A H1, St P H0 H1 (os ++ [⟨.map (some A), 0, []⟩]) → K (.map (some A)) H1) : a0c P H t K := by
 obtain ⟨kt, et, h1, _⟩ := hk.ex
 refine ⟨.map (some H.length), H.cons (.map [] 0 0), by simp [gV, h1], h _ _ (hS.add ?_ ?_ ?_ ?_)⟩
 ·unfold OwnAt
  rw [if_pos rfl]
  exact .inr ⟨_, [], 0, 0, aK H _, rfl, rfl⟩
 ·simp [iI]
 ·exact fun B hB => bO _ hB
 ·intro B hB
  simp [cA] at hB
  omega
def a9M (P : Program) (H : Heap) (t : TypeId) (m k v : Value) (K : Heap → Prop) (_k : Keep K := ⟨⟩) : Prop := ∃ H1, tI P H t m k v = some H1 ∧ K H1
theorem a3P {t : TypeId} {m m' k k' v v' : Value} {K : Heap → Prop} (h : m = m') (h2 : k = k') (h3 : v = v') : a9M P H t m k v K = a9M P H t m' k' v' K := by rw [h, h2, h3]
attribute [congr] a3P
theorem xN (d ty pos af g) (t : TypeId) (m k v : Operand) (l : List Value) (K : Value → Heap → Prop) :
 dU P ⟨d, .mapUpdate t m k v, ty, pos, af, g⟩ l H K = bH m l fun m => bH k l fun k => bH v l fun v => a9M P H t m k v fun H1 => K undef H1 := by
 have h2 : bZ ((tI P H t (ev l m) (ev l k) (ev l v)).map fun H => (undef, H)) K = ∃ H1, tI P H t (ev l m) (ev l k) (ev l v) = some H1 ∧ K undef H1 := by
  cases tI P H t (ev l m) (ev l k) (ev l v) <;> simp [bZ]
 simp only [dU, opD, bH, Op.operands, a9M, h2]
 simp [and_assoc]
theorem a6B (kvs : List (κ × β)) (k : κ) (v : β) : a1i kvs k v = match (kvs.map (·.1)).findIdx? (fun x => decide (x = k)) with | some j => kvs.set j (k, v) | none => kvs ++ [(k, v)] := by
 unfold a1i
 rw [List.findIdx?_map]
 rfl
theorem St.eUpd (hS : St P H0 H os) (i : Nat) {A : Nat} {kvs : List (κ × β)} (ho : os[i]? = some ⟨.map (some A), 0, kcs enc f kvs⟩) (hk : MapK P t enc z) {k : κ} {v : β} {K : Heap → Prop}
 (h : ∀ H1, St P H0 H1 (os.set i ⟨.map (some A), 0, kcs enc f (a1i kvs k v)⟩) → K H1) : a9M P H t (.map (some A)) (enc k) (f v) K := by
 obtain ⟨kt, et, h1, h2, h3, h4, h5, h6⟩ := hk.ex
 obtain ⟨es, ck, ver, h7, h8⟩ := hS.mcell i ho
 obtain ⟨h9, h10⟩ := a0r es kvs h8
 have hi := h5 k es (kvs.map (·.1)) (by rw [h9]; simp [Function.comp_def])
 have fin : ∀ es' ck', mcs es' = kcs enc f (a1i kvs k v) → St P H0 (hset H A (.map es' ck' (ver + 1))) (os.set i ⟨.map (some A), 0, kcs enc f (a1i kvs k v)⟩) := by
  intro es' ck' he
  refine hS.put i ho ?_ ?_ ?_ ?_
  ·unfold OwnAt
   rw [if_pos rfl]
   exact .inr ⟨A, es', ck', _, aO _ (bG h7), he.symm, rfl⟩
  ·rw [bI]; exact Nat.le_refl _
  ·intro B hB hne
   exact iW fun hh => hne (by simp [cA, hh])
  ·exact fun B hB => .inl hB
 rcases a6a kvs k with ⟨j, x, e1, e2, _⟩ | ⟨e1, _⟩
 ·have hj : es[j]?.map (·.key) = some (enc x.1) := by
   rw [← List.getElem?_map, h9, List.getElem?_map, e2]; rfl
  have hx : x.1 = k := by
   have := List.findIdx?_eq_some_iff_getElem.1 e1
   obtain ⟨hlt, hd, _⟩ := this
   have hlt' : j < kvs.length := by simpa using hlt
   have : kvs[j] = x := by
    rw [List.getElem?_eq_getElem hlt'] at e2
    exact Option.some.inj e2
   simp [this] at hd
   exact hd
  cases he : es[j]? with
  | none => rw [he] at hj; simp at hj
  | some e =>
    rw [he] at hj
    simp only [Option.map_some, Option.some.injEq] at hj
    refine ⟨hset H A (.map (es.set j { e with key := enc k, val := f v }) ck (ver + 1)), ?_, h _ (fin _ _ ?_)⟩
    ·have hsb : Instr.sameBits 10000 e.key (enc k) = true := by rw [hj, hx]; exact h6 k
     simp only [tI, h1, Option.bind_some, h7, h4, if_true, hi, e1, he, hsb]
    ·symm
     rw [a6B, e1]
     refine a3H _ _ ?_ ?_
     ·rw [List.map_set, List.map_set, h9]
     ·rw [List.map_set, List.map_set, h10]
 ·refine ⟨hset H A (.map (es ++ [{ key := enc k, val := f v, born := ck }]) (ck + 1) (ver + 1)), ?_, h _ (fin _ _ ?_)⟩
  ·simp only [tI, h1, Option.bind_some, h7, h4, if_true, hi, e1]
  ·symm
   rw [a6B, e1]
   refine a3H _ _ ?_ ?_
   ·rw [List.map_append, List.map_append, h9]; rfl
   ·rw [List.map_append, List.map_append, h10]; rfl
theorem vG (kvs : List (κ × β)) (k k' : κ) (v : β) : vX (a1i kvs k v) k' = if k' = k then some v else vX kvs k' := by
 unfold vX a1i
 induction kvs with
 | nil =>
   by_cases h : k' = k
   ·simp [h]
   ·simp [h, Ne.symm h]
 | cons p kvs ih =>
   by_cases hp : p.1 = k
   ·simp only [List.findIdx?_cons, hp, decide_true, if_true, List.set_cons_zero, List.find?_cons]
    by_cases h : k' = k
    ·simp [h]
    ·simp [h, Ne.symm h]
   ·have hd : decide (p.1 = k) = false := by simp [hp]
    simp only [List.findIdx?_cons, hd, Bool.false_eq_true, if_false]
    by_cases hq : p.1 = k'
    ·have hne : ¬ k' = k := fun e => hp (hq.trans e)
     cases hh : kvs.findIdx? (fun p => decide (p.1 = k)) with
     | none => simp [hq, hne]
     | some j => simp [hq, hne]
    ·cases hh : kvs.findIdx? (fun p => decide (p.1 = k)) with
     | none =>
       rw [hh] at ih
       simpa [hq, List.find?_cons] using ih
     | some j =>
       rw [hh] at ih
       simpa [hq, List.find?_cons] using ih
end
end Go.Ds
namespace Go.Ds
noncomputable section
variable {P : Program} {H : Heap}
theorem cF {α : Type} (P : Program) (x : α) : aI P (pure x) = some x := rfl
theorem bN {t : TypeId} {d : TypeDesc} (h : P.underlying t = some d) : aI P (underlying t) = some d := by
 unfold underlying
 rw [aG]
 have : aI P program = some P := rfl
 rw [this, Option.bind_some, h]
 rfl
def cY : Operand → Bool
 | .const _ => true
 | _ => false
def gC (c : Bool) (i : Nat) (v : Value) : Operand := if c then .const v else .tmp i
def cW (P : Program) (op : BinOp) (t t2 : TypeId) (cx cy : Bool) (x y : Value) : Option Value := (opD P ⟨none, .binOp op t (gC cx 0 x) (gC cy 1 y) t2, t, "", #[], none⟩ [x, y] .nil).map (·.1)
def cX (P : Program) (op : BinOp) (t t2 : TypeId) (cx cy : Bool) (x y : Value) (K : Value → Prop) (_k : Keep K := ⟨⟩) : Prop := match x, y with
 | .int k a, .int k' b => (match (if k = k' then eF op k a b else none) with | some v => K v | none => bS (cW P op t t2 cx cy (.int k a) (.int k' b)) K)
 | x, y => bS (cW P op t t2 cx cy x y) K
theorem a2Q {op : BinOp} {t t2 : TypeId} {cx cy : Bool} {x x' y y' : Value} {K : Value → Prop} (h : x = x') (h2 : y = y') : cX P op t t2 cx cy x y K = cX P op t t2 cx cy x' y' K := by rw [h, h2]
attribute [congr] a2Q
theorem a4V (x : Operand) (l m : List Value) : ev (ev l x :: m) (gC (cY x) 0 (ev l x)) = ev l x := by cases x <;> rfl
theorem a4P (x : Operand) (l m : List Value) (a : Value) : ev (a :: ev l x :: m) (gC (cY x) 1 (ev l x)) = ev l x := by cases x <;> rfl
theorem b0X (op : BinOp) (t : TypeId) (x y : Operand) (l : List Value) : eqGuard op t x y (ev l x) (ev l y) = eqGuard op t (gC (cY x) 0 (ev l x)) (gC (cY y) 1 (ev l y)) (ev l x) (ev l y) := by
 generalize hx : ev l x = vx
 generalize hy : ev l y = vy
 cases x <;> cases y <;> rfl
theorem b4e (d ty pos af g) (op : BinOp) (t : TypeId) (x y : Operand) (t2 : TypeId) (l : List Value) (H : Heap) :
 opD P ⟨d, .binOp op t x y t2, ty, pos, af, g⟩ l H = (cW P op t t2 (cY x) (cY y) (ev l x) (ev l y)).map fun v => (v, H) := by
 have hp : cJ P ⟨d, .binOp op t x y t2, ty, pos, af, g⟩ l H = _ := eR (P := P) ⟨d, .binOp op t x y t2, ty, pos, af, g⟩ ⟨none, .binOp op t (gC (cY x) 0 (ev l x)) (gC (cY y) 1 (ev l y)) t2, t, "", #[], none⟩ l [ev l x, ev l y] H
  (by simp only [Op.operands, List.map_cons, List.map_nil, a4V, a4P]) (by
    simp only [execOp]
    rw [a4V, a4P, ← b0X])
 simp only [opD, cW, hp, a4V, a4P]
 generalize cJ P _ _ _ = r
 generalize ev l x = vx
 generalize ev l y = vy
 split
 all_goals first
  | (split <;> first | rfl | (split <;> first | rfl | (cases r <;> rfl)) | (cases r <;> rfl))
  | (cases r <;> rfl)
theorem a9K (d ty pos af g) (op : BinOp) (t : TypeId) (x y : Operand) (t2 : TypeId) (l : List Value) (K : Value → Heap → Prop) :
 dU P ⟨d, .binOp op t x y t2, ty, pos, af, g⟩ l H K = bH x l fun x' => bH y l fun y' => cX P op t t2 (cY x) (cY y) x' y' fun v => K v H := by
 have h : bZ (opD P ⟨d, .binOp op t x y t2, ty, pos, af, g⟩ l H) K = cX P op t t2 (cY x) (cY y) (ev l x) (ev l y) fun v => K v H := by
  have key : bZ ((cW P op t t2 (cY x) (cY y) (ev l x) (ev l y)).map fun v => (v, H)) K = bS (cW P op t t2 (cY x) (cY y) (ev l x) (ev l y)) fun v => K v H := by
   cases cW P op t t2 (cY x) (cY y) (ev l x) (ev l y) <;> rfl
  rw [b4e, key]
  unfold cX
  split
  ·rename_i k a k' b hx hy
   split
   ·rename_i v hv
    split at hv
    ·rename_i hk
     subst hk
     have : cW P op t t2 (cY x) (cY y) (.int k a) (.int k b) = some v := by
      have h1 : ∀ m, ev ((.int k a : Value) :: m) (gC (cY x) 0 (.int k a)) = .int k a := fun m => by cases cY x <;> rfl
      have h2 : ∀ m c, ev (c :: (.int k b : Value) :: m) (gC (cY y) 1 (.int k b)) = .int k b := fun m c => by cases cY y <;> rfl
      cases op <;> simp only [eF] at hv <;> first | (cases hv; done) | (simp only [cW, opD, h1, h2, eF, if_true, hv]; rfl)
     rw [hx, hy, this]
     rfl
    ·cases hv
   ·rw [hx, hy]
  ·rfl
 simp only [dU, h, bH, Op.operands]
 simp [and_assoc]
theorem dP (op : BinOp) (t t2 : TypeId) (cx cy : Bool) (k : IntKind) (a b : Int) {v : Value} (K : Value → Prop) (h : eF op k a b = some v) : cX P op t t2 cx cy (.int k a) (.int k b) K = gP v K := by
 simp [cX, h, gP]
section
theorem a7L (t t2 : TypeId) (cx cy : Bool) (k : IntKind) (a b : Int) (K : Value → Prop) : cX P .add t t2 cx cy (.int k a) (.int k b) K = gP (.int k (k.wrap (a + b))) K := dP _ _ _ _ _ _ _ _ _ (by simp [eF, a6M, lV])
theorem a7s (t t2 : TypeId) (cx cy : Bool) (k : IntKind) (a b : Int) (K : Value → Prop) : cX P .sub t t2 cx cy (.int k a) (.int k b) K = gP (.int k (k.wrap (a - b))) K := dP _ _ _ _ _ _ _ _ _ (by simp [eF, a6H, lV])
theorem a7A (t t2 : TypeId) (cx cy : Bool) (k : IntKind) (a b : Int) (K : Value → Prop) : cX P .mul t t2 cx cy (.int k a) (.int k b) K = gP (.int k (k.wrap (a * b))) K := dP _ _ _ _ _ _ _ _ _ (by simp [eF, lV])
theorem a9a (t t2 : TypeId) (cx cy : Bool) (k : IntKind) (a b : Int) (K : Value → Prop) : cX P .eql t t2 cx cy (.int k a) (.int k b) K = gP (.bool (decide (a = b))) K := dP _ _ _ _ _ _ _ _ _ (by simp [eF, vW]; rfl)
theorem a8D (t t2 : TypeId) (cx cy : Bool) (k : IntKind) (a b : Int) (K : Value → Prop) : cX P .neq t t2 cx cy (.int k a) (.int k b) K = gP (.bool (decide (¬ a = b))) K := dP _ _ _ _ _ _ _ _ _ (by simp [eF, vW]; rfl)
theorem a8w (t t2 : TypeId) (cx cy : Bool) (k : IntKind) (a b : Int) (K : Value → Prop) : cX P .lss t t2 cx cy (.int k a) (.int k b) K = gP (.bool (decide (a < b))) K := dP _ _ _ _ _ _ _ _ _ (by simp [eF, rE])
theorem a7J (t t2 : TypeId) (cx cy : Bool) (k : IntKind) (a b : Int) (K : Value → Prop) : cX P .leq t t2 cx cy (.int k a) (.int k b) K = gP (.bool (decide (a ≤ b))) K := dP _ _ _ _ _ _ _ _ _ (by simp [eF, rE, ← Int.not_lt])
theorem a8i (t t2 : TypeId) (cx cy : Bool) (k : IntKind) (a b : Int) (K : Value → Prop) : cX P .gtr t t2 cx cy (.int k a) (.int k b) K = gP (.bool (decide (b < a))) K := dP _ _ _ _ _ _ _ _ _ (by simp [eF, rE])
theorem a8c (t t2 : TypeId) (cx cy : Bool) (k : IntKind) (a b : Int) (K : Value → Prop) : cX P .geq t t2 cx cy (.int k a) (.int k b) K = gP (.bool (decide (b ≤ a))) K := dP _ _ _ _ _ _ _ _ _ (by simp [eF, rE, ← Int.not_lt])
theorem a8C (t t2 : TypeId) (cx cy : Bool) (k : IntKind) (a b : Int) (K : Value → Prop) (hb : b ≠ 0) : cX P .rem t t2 cx cy (.int k a) (.int k b) K = gP (.int k (a.tmod b)) K := dP _ _ _ _ _ _ _ _ _ (by
 have : (b == 0) = false := by simp [hb]
 simp [eF, vW, this])
theorem a8k (t t2 : TypeId) (cx cy : Bool) (k : IntKind) (a b : Int) (K : Value → Prop) (hb : b ≠ 0) : cX P .quo t t2 cx cy (.int k a) (.int k b) K = gP (.int k (k.wrap (a.tdiv b))) K := dP _ _ _ _ _ _ _ _ _ (by
 have : (b == 0) = false := by simp [hb]
 simp [eF, vW, lV, this])
end
theorem dF {op : BinOp} {t t2 : TypeId} {cx cy : Bool} {x y v : Value} (hx : flat x = true) (hy : flat y = true) (hg : aI P (eqGuard op t (gC cx 0 x) (gC cy 1 y) x y) = some ())
 (hv : aI P (binOp op t x y) = some v) (hf : flat v = true) (hs : ∀ a n c, x ≠ .slice (some a) n c) (hp : ∀ a, x ≠ .pointer (some a)) (hi : ∀ k a b, x = .int k a → y = .int k b → eF op k a b = none) : cW P op t t2 cx cy x y = some v := by
 have h1 : ∀ m, ev (x :: m) (gC cx 0 x) = x := fun m => by cases cx <;> rfl
 have h2 : ∀ m c, ev (c :: y :: m) (gC cy 1 y) = y := fun m c => by cases cy <;> rfl
 have hpl : cJ P ⟨none, .binOp op t (gC cx 0 x) (gC cy 1 y) t2, t, "", #[], none⟩ [x, y] .nil = some (v, .nil) := by
  unfold cJ
  rw [if_pos (by simp [Op.operands, h1, h2, hx, hy])]
  have : execOp (ev [x, y]) ⟨none, .binOp op t (gC cx 0 x) (gC cy 1 y) t2, t, "", #[], none⟩ = (do let v ← (do eqGuard op t (gC cx 0 x) (gC cy 1 y) x y; binOp op t x y); pure (.value v)) := by
   simp only [execOp, h1, h2]
  rw [this, aG, aG, hg, Option.bind_some, hv, Option.bind_some, cF]
  simp only [hf, if_true]
 simp only [cW, opD, h1, h2, hpl]
 split
 ·exact absurd rfl (hs _ _ _)
 ·exact absurd rfl (hs _ _ _)
 ·rename_i k a k' b
  split
  ·rename_i hk
   subst hk
   rw [hi _ _ _ rfl rfl]
   rfl
  ·rfl
 ·exact absurd rfl (hp _)
 ·exact absurd rfl (hp _)
 ·exact absurd rfl (hp _)
 ·exact absurd rfl (hp _)
 ·rfl
theorem iL {op : BinOp} {t : TypeId} {x y : Operand} {k k' : IntKind} {a b : Int} : aI P (eqGuard op t x y (.int k a) (.int k' b)) = some () := by
 unfold eqGuard
 split <;> rfl
section
theorem b0l (t t2 : TypeId) (cx cy : Bool) (a b : Int) {k k' : IntKind} (hb : 0 ≤ b) : cW P .shr t t2 cx cy (.int k a) (.int k' b) = some (.int k (a.fdiv (2 ^ (min b.toNat k.bits)))) :=
 dF rfl rfl iL (by simp only [binOp, Op.shift]; rw [if_neg (by omega)]; rfl) rfl (by simp) (by simp) (by intros; rfl)
theorem b1O (t t2 : TypeId) (cx cy : Bool) (a b : Int) {k k' : IntKind} (hb : 0 ≤ b) : cW P .shl t t2 cx cy (.int k a) (.int k' b) = some (.int k (k.wrap (a * 2 ^ (min b.toNat k.bits)))) :=
 dF rfl rfl iL (by simp only [binOp, Op.shift]; rw [if_neg (by omega)]; rfl) rfl (by simp) (by simp) (by intros; rfl)
theorem b0p (t t2 : TypeId) (cx cy : Bool) (a b : Int) (k : IntKind) : cW P .and t t2 cx cy (.int k a) (.int k b) = some (.int k (k.wrap (BitVec.ofInt k.bits a &&& BitVec.ofInt k.bits b).toNat)) :=
 dF rfl rfl iL (by simp only [binOp]; rw [if_neg (by simp)]; rfl) rfl (by simp) (by simp) (by intros; rfl)
theorem b4M (t t2 : TypeId) (cx cy : Bool) (a b : Int) (k : IntKind) : cW P .or t t2 cx cy (.int k a) (.int k b) = some (.int k (k.wrap (BitVec.ofInt k.bits a ||| BitVec.ofInt k.bits b).toNat)) :=
 dF rfl rfl iL (by simp only [binOp]; rw [if_neg (by simp)]; rfl) rfl (by simp) (by simp) (by intros; rfl)
theorem b0G (t t2 : TypeId) (cx cy : Bool) (a b : Int) (k : IntKind) : cW P .xor t t2 cx cy (.int k a) (.int k b) = some (.int k (k.wrap (BitVec.ofInt k.bits a ^^^ BitVec.ofInt k.bits b).toNat)) :=
 dF rfl rfl iL (by simp only [binOp]; rw [if_neg (by simp)]; rfl) rfl (by simp) (by simp) (by intros; rfl)
theorem a2x (t t2 : TypeId) (cx cy : Bool) (a b : Int) (k : IntKind) : cW P .andNot t t2 cx cy (.int k a) (.int k b) = some (.int k (k.wrap (BitVec.ofInt k.bits a &&& ~~~ BitVec.ofInt k.bits b).toNat)) :=
 dF rfl rfl iL (by simp only [binOp]; rw [if_neg (by simp)]; rfl) rfl (by simp) (by simp) (by intros; rfl)
end
section
variable (a b : ByteArray)
theorem qR {op : BinOp} {t : TypeId} {x y : Operand} : aI P (eqGuard op t x y (.string a) (.string b)) = some () := by
 unfold eqGuard
 split <;> rfl
theorem sN (h : a.data.toList = b.data.toList) : a = b := by
 cases a; cases b
 simp only [ByteArray.mk.injEq]
 exact Array.toList_inj.1 h
theorem uB : (a.toList == b.toList) = decide (a = b) := by
 rw [ByteArray.toList_eq, ByteArray.toList_eq, Bool.eq_iff_iff, beq_iff_eq, decide_eq_true_iff]
 exact ⟨sN a b, fun h => by rw [h]⟩
theorem a5n (t t2 : TypeId) (cx cy : Bool) (a b : ByteArray) : cW P .eql t t2 cx cy (.string a) (.string b) = some (.bool (decide (a = b))) :=
 dF rfl rfl (qR a b) (by rw [← uB]; rfl) rfl (by simp) (by simp) (by intro _ _ _ h; cases h)
theorem a5j (t t2 : TypeId) (cx cy : Bool) (a b : ByteArray) : cW P .neq t t2 cx cy (.string a) (.string b) = some (.bool (decide (¬ a = b))) :=
 dF rfl rfl (qR a b) (by
  have : decide (¬ a = b) = !(a.toList == b.toList) := by rw [uB]; simp
  rw [this]; rfl) rfl (by simp) (by simp) (by intro _ _ _ h; cases h)
theorem a3A (t t2 : TypeId) (cx cy : Bool) (a b : ByteArray) (h : a.size + b.size < 9223372036854775808) : cW P .add t t2 cx cy (.string a) (.string b) = some (.string (a ++ b)) :=
 dF rfl rfl (qR a b) (by
  simp only [binOp, Op.stringOp]
  rw [if_neg]
  ·rfl
  ·have : IntKind.i64.max = 9223372036854775807 := by decide
   rw [this]; omega) rfl (by simp) (by simp) (by intro _ _ _ h; cases h)
end
theorem b0d {t : TypeId} (s : ByteArray) (ht : gB P t = true) : rQ P H t (.string s) = some (.int .i64 s.size) := by
 unfold gB at ht
 unfold rQ
 split at ht
 ·rename_i h; rw [h]; simp [oF, goInt]
 ·cases ht
def gI (P : Program) (t : TypeId) (x i : Value) : Option Value := (opD P ⟨none, .index t (.const x) (.const i), t, "", #[], none⟩ [] .nil).map (·.1)
theorem a8f (d ty pos af g) (t : TypeId) (x i : Operand) (l : List Value) (K : Value → Heap → Prop) :
 dU P ⟨d, .index t x i, ty, pos, af, g⟩ l H K = bH x l fun x => bH i l fun i => bS (gI P t x i) fun v => K v H := by
 have h : opD P ⟨d, .index t x i, ty, pos, af, g⟩ l H = (gI P t (ev l x) (ev l i)).map fun v => (v, H) := by
  have hp := eR (P := P) ⟨d, .index t x i, ty, pos, af, g⟩ ⟨none, .index t (.const (ev l x)) (.const (ev l i)), t, "", #[], none⟩ l [] H rfl rfl
  simp only [opD, gI]
  exact hp
 have h2 : bZ ((gI P t (ev l x) (ev l i)).map fun v => (v, H)) K = bS (gI P t (ev l x) (ev l i)) fun v => K v H := by cases gI P t (ev l x) (ev l i) <;> rfl
 simp only [dU, h, bH, Op.operands, h2]
 simp [and_assoc]
def fR (s : ByteArray) (i : Nat) : Nat := (s.data.toList.getD i 0).toNat
theorem a4g {t : TypeId} (s : ByteArray) (k : IntKind) (i : Int) (ht : gB P t = true) (h0 : 0 ≤ i) (h1 : i < s.size) : gI P t (.string s) (.int k i) = some (.int .u8 (fR s i.toNat)) := by
 have hu : P.underlying t = some .string := by
  unfold gB at ht
  split at ht
  ·rename_i h; exact h
  ·cases ht
 have hr : aI P (Instr.index t (.string s) (.int k i)) = some (.int .u8 (fR s i.toNat)) := by
  unfold Instr.index
  rw [aG]
  have e1 : aI P (asIntOf (.int k i)) = some (k, i) := rfl
  rw [e1, Option.bind_some]
  simp only [aG, bN hu, Option.bind_some]
  rw [if_pos h0]
  have hlt : i.toNat < s.size := by omega
  have hb : s[i.toNat]? = some s[i.toNat] := by simp [getElem?_pos, hlt]
  simp only [hb]
  rw [cF]
  congr 3
  unfold fR
  rw [List.getD_eq_getElem?_getD]
  have hl : i.toNat < s.data.toList.length := by simpa using hlt
  rw [List.getElem?_eq_getElem hl]
  rfl
 have hpl : cJ P ⟨none, .index t (.const (.string s)) (.const (.int k i)), t, "", #[], none⟩ [] .nil = some (.int .u8 (fR s i.toNat), .nil) := by
  unfold cJ
  rw [if_pos (by rfl)]
  have : execOp (ev []) ⟨none, .index t (.const (.string s)) (.const (.int k i)), t, "", #[], none⟩ = (do let v ← Instr.index t (.string s) (.int k i); pure (.value v)) := rfl
  rw [this, aG, hr, Option.bind_some, cF]
  rfl
 simp only [gI, opD, hpl]
 rfl
def tC (P : Program) (t : TypeId) : Option IntKind := match P.underlying t with | some (.int k) => some k | _ => none
theorem sF {t : TypeId} {k : IntKind} (h : tC P t = some k) : P.underlying t = some (.int k) := by
 unfold tC at h
 split at h
 ·rename_i h2; rw [h2]; injection h with h; rw [h]
 ·cases h
theorem a8P {s t : TypeId} {k k' : IntKind} (a : Int) (hs : tC P s = some k) (ht : tC P t = some k') : uQ P s t (.int k a) = some (.int k' (k'.wrap a)) := by
 have hr : aI P (convert s t (.int k a)) = some (.int k' (k'.wrap a)) := by
  unfold convert
  simp only [aG, bN (sF hs), bN (sF ht), Option.bind_some]
  rfl
 have hpl : cJ P ⟨none, .convert s t (.const (.int k a)), t, "", #[], none⟩ [] .nil = some (.int k' (k'.wrap a), .nil) := by
  unfold cJ
  rw [if_pos (by rfl)]
  have : execOp (ev []) ⟨none, .convert s t (.const (.int k a)), t, "", #[], none⟩ = (do let v ← convert s t (.int k a); pure (.value v)) := rfl
  rw [this, aG, hr, Option.bind_some, cF]
  rfl
 simp only [uQ, hpl]
 rfl
def a0o (P : Program) (d : Nat) (xs ys : Array Value) (fs : List Field) : Option Bool :=
 (aI P (forIn fs ((none, ()) : Option Bool × Unit) fun f _ =>
   if f.name ≠ "_" then do
    let a ← part f.type xs f.offset
    let b ← part f.type ys f.offset
    let c ← Op.equalIn d f.type a b
    if (!c) = true then pure (ForInStep.done (some false, ())) else pure (ForInStep.yield (none, ()))
   else pure (ForInStep.yield (none, ())))).bind fun x => aI P (match x.fst with | some r => pure r | none => pure true)
theorem vS {d : Nat} {xs ys : Array Value} (g : Field → Bool) : ∀ (fs : List Field), (∀ f ∈ fs, f.name ≠ "_" ∧ aI P (part f.type xs f.offset >>= fun x => part f.type ys f.offset >>= fun y => Op.equalIn d f.type x y) = some (g f)) →
 a0o P d xs ys fs = some (fs.all g)
 | [], _ => rfl
 | f :: fs, hg => by
   obtain ⟨h1, h2⟩ := hg f (List.mem_cons_self ..)
   have ih := vS g fs fun f' h => hg f' (List.mem_cons_of_mem _ h)
   unfold a0o at ih ⊢
   rw [aG] at h2
   simp only [List.forIn_cons, h1, ne_eq, not_false_eq_true, if_true, aG]
   cases hx : aI P (part f.type xs f.offset) with
   | none => rw [hx] at h2; cases h2
   | some x =>
     rw [hx, Option.bind_some, aG] at h2
     cases hy : aI P (part f.type ys f.offset) with
     | none => rw [hy] at h2; cases h2
     | some y =>
       rw [hy, Option.bind_some] at h2
       simp only [Option.bind_some, h2]
       cases hgf : g f with
       | false =>
         simp only [Bool.not_false, if_true, cF, Option.bind_some, List.all_cons, hgf, Bool.false_and]
       | true =>
         simp only [Bool.not_true, Bool.false_eq_true, if_false, cF, Option.bind_some, List.all_cons, hgf, Bool.true_and]
         exact ih
theorem a2B {d : Nat} {t : TypeId} {fs : List Field} {xs ys : Array Value} (hu : P.underlying t = some (.struct fs.toArray)) (hst : P.stoodInHeld t = false) (g : Field → Bool)
 (hg : ∀ f ∈ fs, f.name ≠ "_" ∧ aI P (part f.type xs f.offset >>= fun x => part f.type ys f.offset >>= fun y => Op.equalIn d f.type x y) = some (g f)) : aI P (Op.equalIn (d + 1) t (.agg xs) (.agg ys)) = some (fs.all g) := by
 rw [Op.equalIn, aG, bN hu, Option.bind_some]
 have hp : aI P program = some P := rfl
 simp only [aG, hp, Option.bind_some, hst, Bool.false_eq_true, if_false, List.forIn_toArray]
 refine Eq.trans ?_ (vS g fs hg)
 unfold a0o
 congr 1
 funext x
 cases x.fst <;> rfl
theorem zB {op : BinOp} {t : TypeId} (ht : P.eqGuardType P.depth t = false) {x y : Operand} {a b : Array Value} : aI P (eqGuard op t x y (.agg a) (.agg b)) = some () := by
 have hp : aI P program = some P := rfl
 unfold eqGuard
 cases op <;> simp [aG, hp, ht, cF]
theorem b0D {t t2 : TypeId} {cx cy : Bool} {xs ys : List Value} (b : Bool) (ht : P.eqGuardType P.depth t = false) (hx : xs.all aV = true) (hy : ys.all aV = true) (h : aI P (Op.equalIn (9999 + 1) t (.agg xs.toArray) (.agg ys.toArray)) = some b) :
 cW P .eql t t2 cx cy (.agg xs.toArray) (.agg ys.toArray) = some (.bool b) :=
 dF (by simp [flat, aY, cB, hx]) (by simp [flat, aY, cB, hy]) (zB ht) (by
  have hmd : Op.maxDepth = 9999 + 1 := by decide
  simp only [binOp, aG, Op.equal]
  rw [hmd, h, Option.bind_some, cF]) rfl (by simp) (by simp) (by intro _ _ _ h; cases h)
theorem a2m {t t2 : TypeId} {cx cy : Bool} {xs ys : List Value} (b : Bool) (ht : P.eqGuardType P.depth t = false) (hx : xs.all aV = true) (hy : ys.all aV = true) (h : aI P (Op.equalIn (9999 + 1) t (.agg xs.toArray) (.agg ys.toArray)) = some b) :
 cW P .neq t t2 cx cy (.agg xs.toArray) (.agg ys.toArray) = some (.bool (!b)) :=
 dF (by simp [flat, aY, cB, hx]) (by simp [flat, aY, cB, hy]) (zB ht) (by
  have hmd : Op.maxDepth = 9999 + 1 := by decide
  simp only [binOp, aG, Op.equal]
  rw [hmd, h, Option.bind_some, cF]) rfl (by simp) (by simp) (by intro _ _ _ h; cases h)
end
end Go.Ds
namespace Go.Ds
noncomputable section
variable {P : Program} {H : Heap}
theorem uV (a b : ByteArray) : (a == b) = decide (b = a) := by
 obtain ⟨x⟩ := a
 obtain ⟨y⟩ := b
 rw [Bool.eq_iff_iff, decide_eq_true_iff]
 constructor
 ·intro h
  have e : x = y := by simpa using (show (x == y) = true from h)
  rw [e]
 ·intro h
  cases h
  show (x == x) = true
  simp
theorem yV (o : Option Nat) (i : Nat) : o.map (i + 1 + ·) = (o.map (· + 1)).map (i + ·) := by
 cases o with
 | none => rfl
 | some j => simp only [Option.map_some]; congr 1; omega
theorem tA (k : ByteArray) : ∀ (es : List MapEntry) (ks : List ByteArray) (i : Nat), es.map (·.key) = ks.map Value.string →
 (Instr.findNow .string (.string k) (es.map oL) i).map (·.map (·.1)) = some ((ks.findIdx? fun x => decide (x = k)).map (i + ·))
 | [], [], i, _ => rfl
 | [], _ :: _, _, h => by simp at h
 | _ :: _, [], _, h => by simp at h
 | e :: es, s :: ks, i, h => by
   simp only [List.map_cons, List.cons.injEq] at h
   have hs : Instr.sameNow .string (.string k) e.key = some (decide (s = k)) := by
    rw [h.1]
    show some (k == s) = _
    rw [uV]
   simp only [List.map_cons, Instr.findNow, oL, hs, List.findIdx?_cons]
   by_cases hd : s = k
   ·simp [hd]
   ·simp only [hd, decide_false, Bool.false_eq_true, if_false]
    have := tA k es ks (i + 1) h.2
    rw [yV] at this
    exact this
theorem a6P {κ : Type} [DecidableEq κ] {enc : κ → Value} {kt : TypeId} (heq : ∀ a b, aI P (Op.equal kt (enc a) (enc b)) = some (decide (b = a))) (k : κ) : ∀ (es : List MapEntry) (ks : List κ) (i : Nat), es.map (·.key) = ks.map enc →
 (aI P (Instr.findAsking kt (enc k) (es.map oL) i)).map (·.map (·.1)) = some ((ks.findIdx? fun x => decide (x = k)).map (i + ·))
 | [], [], i, _ => rfl
 | [], _ :: _, _, h => by simp at h
 | _ :: _, [], _, h => by simp at h
 | e :: es, s :: ks, i, h => by
   simp only [List.map_cons, List.cons.injEq] at h
   simp only [List.map_cons, Instr.findAsking, oL, aG, List.findIdx?_cons]
   rw [h.1, heq, Option.bind_some]
   by_cases hd : s = k
   ·simp [hd, cF]
   ·simp only [hd, decide_false, Bool.false_eq_true, if_false]
    have := a6P heq k es ks (i + 1) h.2
    rw [yV] at this
    exact this
theorem MapK.str {t kt et : TypeId} {z : Value} (hm : sK P t = some (kt, et)) (hu : P.underlying kt = some .string) (hz : aZ P et = some z) (hf : aY z = true) : MapK P t Value.string z where
 ex := by
  refine ⟨kt, et, hm, hz, hf, ?_, ?_, ?_⟩
  ·intro b k
   have : aI P (Instr.checkKey b 10000 kt (.string k)) = some () := by
    show aI P (Instr.checkKey b (9999 + 1) kt (.string k)) = some ()
    unfold Instr.checkKey
    rw [aG, bN hu, Option.bind_some]
    rfl
   simp only [vT, this]
   rfl
  ·intro k es ks h
   have h1 := tA k es ks 0 h
   unfold lC Instr.findKey
   rw [aG, bN hu, Option.bind_some]
   cases hn : Instr.findNow .string (.string k) (es.map oL) 0 with
   | none => rw [hn] at h1; cases h1
   | some r =>
     rw [hn] at h1
     simp only [cF]
     simpa using h1
  ·intro k
   show (k == k) = true
   rw [uV]
   simp
theorem MapK.struct {κ : Type} [DecidableEq κ] {enc : κ → Value} {t kt et : TypeId} {z : Value} {fs : Array Field} (hm : sK P t = some (kt, et)) (hu : P.underlying kt = some (.struct fs)) (hz : aZ P et = some z) (hf : aY z = true)
 (hk : ∀ b k, vT P b kt (enc k) = true) (heq : ∀ a b, aI P (Op.equal kt (enc a) (enc b)) = some (decide (b = a))) (hsb : ∀ k, Instr.sameBits 10000 (enc k) (enc k) = true) : MapK P t enc z where
 ex := by
  refine ⟨kt, et, hm, hz, hf, hk, ?_, hsb⟩
  intro k es ks h
  have h1 := a6P heq k es ks 0 h
  unfold lC Instr.findKey
  rw [aG, bN hu, Option.bind_some]
  have key : ∀ (l : List MapEntry), Instr.findNow (.struct fs) (enc k) l 0 = none ∨ l = [] := by
   intro l
   cases l with
   | nil => exact .inr rfl
   | cons e l => exact .inl rfl
  rcases key (es.map oL) with hn | hn
  ·rw [hn]
   simpa using h1
  ·rw [hn]
   have : es = [] := by simpa using hn
   subst this
   have : ks = [] := by cases ks with | nil => rfl | cons a ks => simp at h
   subst this
   rfl
end
end Go.Ds
namespace Go.Ds
noncomputable section
variable {P : Program} {H : Heap}
def vM (o : Option (Nat × TypeId)) (P : Program) (H : Heap) (t : TypeId) (z : Value) (K : Value → Heap → Prop) (_k : Keep K := ⟨⟩) : Prop := match o with
 | none => lY (aY z) (a0G P H t z K)
 | some _ => lY (aY z) (a4d P H t z K)
theorem a1a {o o' : Option (Nat × TypeId)} {t : TypeId} {z : Value} {K : Value → Heap → Prop} (h : o = o') : vM o P H t z K = vM o' P H t z K := by rw [h]
attribute [congr] a1a
theorem b0x {t : TypeId} (z : Value) (K : Value → Heap → Prop) : mQ P H t (some z) K = vM (bK P t) P H t z K := by
 cases h : bK P t with
 | none => exact a3p z K h
 | some n => exact a4Q z K h
theorem a2v {t : TypeId} (z : Value) (K : Value → Heap → Prop) : vM none P H t z K = lY (aY z) (a0G P H t z K) := rfl
theorem a3s {t : TypeId} (n : Nat × TypeId) (z : Value) (K : Value → Heap → Prop) : vM (some n) P H t z K = lY (aY z) (a4d P H t z K) := rfl
theorem a2g {t : TypeId} {k : IntKind} (h : tC P t = some k) : cU P t = false := by
 simp [cU, sF h]
def zF (ks kt : Option IntKind) (P : Program) (s t : TypeId) (H : Heap) (k : IntKind) (a : Int) (K : Value → Heap → Prop) (_k : Keep K := ⟨⟩) : Prop := match ks, kt with
 | some k0, some k' => if k0 = k then K (.int k' (k'.wrap a)) H else lH P s t H (.int k a) K
 | _, _ => lH P s t H (.int k a) K
theorem a1s {ks ks' kt kt' : Option IntKind} {s t : TypeId} {k : IntKind} {a : Int} {K : Value → Heap → Prop} (h : ks = ks') (h2 : kt = kt') : zF ks kt P s t H k a K = zF ks' kt' P s t H k a K := by rw [h, h2]
attribute [congr] a1s
theorem b3l {s t : TypeId} (k : IntKind) (a : Int) (K : Value → Heap → Prop) : lH P s t H (.int k a) K = zF (tC P s) (tC P t) P s t H k a K := by
 unfold zF
 split
 ·rename_i k0 k' hs ht
  split
  ·rename_i hk
   subst hk
   rw [a8t k0 a K (a2g ht), a8P a hs ht]
   rfl
  ·rfl
 ·rfl
theorem a7T {s t : TypeId} (k k' : IntKind) (a : Int) (K : Value → Heap → Prop) : zF (some k) (some k') P s t H k a K = gP (.int k' (k'.wrap a)) fun v => K v H := by simp [zF, gP]
def b7N (b : Bool) (P : Program) (H : Heap) (t : TypeId) (v : Value) : Option Value := match b with
 | true => (match v with | .string s => some (.int .i64 s.size) | _ => rQ P H t v)
 | false => rQ P H t v
theorem b7A (t : TypeId) (v : Value) : a4l none P H t v = b7N (gB P t) P H t v := by
 unfold b7N
 split
 ·rename_i h
  split
  ·exact b0d _ h
  ·rfl
 ·rfl
theorem b1J (t : TypeId) (s : ByteArray) : b7N true P H t (.string s) = some (.int .i64 s.size) := rfl
def wN (b : Bool) (P : Program) (t : TypeId) (x i : Value) : Option Value := match b, x, i with
 | true, .string s, .int k i => if 0 ≤ i ∧ i < s.size then some (.int .u8 (fR s i.toNat)) else gI P t (.string s) (.int k i)
 | _, x, i => gI P t x i
theorem a2s (t : TypeId) (x i : Value) : gI P t x i = wN (gB P t) P t x i := by
 unfold wN
 split
 ·rename_i h
  split
  ·rename_i h2; exact a4g _ _ _ h h2.1 h2.2
  ·rfl
 ·rfl
theorem a5U (t : TypeId) (s : ByteArray) (k : IntKind) (i : Int) (h0 : 0 ≤ i) (h1 : i < s.size) : wN true P t (.string s) (.int k i) = some (.int .u8 (fR s i.toNat)) := by
 simp [wN, h0, h1]
theorem OC : (∀ k n, oneCell (.int k n) = true) ∧ (∀ b, oneCell (.bool b) = true) ∧ (∀ s, oneCell (.string s) = true) ∧ (∀ a, oneCell (.pointer a) = true) ∧ (∀ a n c, oneCell (.slice a n c) = true) ∧ (∀ r, oneCell (.map r) = true) ∧ (∀ f a b, oneCell (.func f a b) = true) ∧ oneCell .nilFunc = true :=
 ⟨fun _ _ => rfl, fun _ => rfl, fun _ => rfl, fun _ => rfl, fun _ _ _ => rfl, fun _ => rfl, fun _ _ _ => rfl, rfl⟩
theorem c1e (o : Option Bool) : (o.map Value.bool).getD (.bool false) = .bool (o.getD false) := by cases o <;> rfl
theorem b9z (k : IntKind) (o : Option Int) : (o.map (Value.int k)).getD (.int k 0) = .int k (o.getD 0) := by cases o <;> rfl
theorem b4b (v : Value) (b : Bool) : pairV false v b = v := rfl
theorem b2F (v : Value) (b : Bool) : pairV true v b = .tuple #[v, .bool b] := rfl
theorem a9Z (t : Tmp) : cY (.tmp t) = false := rfl
theorem a4c (v : Value) : cY (.const v) = true := rfl
theorem b1N (s : ByteArray) : flat (.string s) = true := rfl
theorem a7Y (s : ByteArray) : aY (.string s) = true := rfl
theorem a4T (s : ByteArray) : aV (.string s) = true := rfl
theorem a3l (s : ByteArray) : bP (.string s) = true := rfl
theorem b1M (k : IntKind) (n : Int) : gU (.int k n) = true := rfl
theorem a8e (b : Bool) : gU (.bool b) = true := rfl
theorem a9t (s : ByteArray) : gU (.string s) = true := rfl
theorem zE {c b : Bool} {p q : Prop} (h1 : c = true → jV (.bool true) b p q) (h2 : c = false → jV (.bool false) b p q) : jV (.bool c) b p q := by
 cases c
 ·exact h2 rfl
 ·exact h1 rfl
theorem St.pick {H0 : Base} {os os' : List Ob} (hS : St P H0 H os) (idx : List Nat) (hn : idx.Nodup) (h : idx.map (os[·]?) = os'.map some) : St P H0 H os' := by
 have hmem : ∀ o ∈ os', o ∈ os := by
  intro o ho
  have : some o ∈ idx.map (os[·]?) := by rw [h]; exact List.mem_map_of_mem ho
  obtain ⟨i, _, hi⟩ := List.mem_map.1 this
  exact List.mem_of_getElem? hi
 refine ⟨hS.len, hS.old, fun o ho => hS.own o (hmem o ho), fun o ho => hS.new o (hmem o ho), ?_⟩
 have hpw := List.pairwise_iff_getElem.1 hS.sep
 rw [List.pairwise_iff_getElem]
 intro i j hi hj hij
 have hl : idx.length = os'.length := by simpa using congrArg List.length h
 have key : ∀ i (hi : i < os'.length), ∃ hk : idx[i]'(by omega) < os.length, os[idx[i]'(by omega)] = os'[i] := by
  intro i hi
  have h1 : (idx.map (os[·]?))[i]? = (os'.map some)[i]? := by rw [h]
  rw [List.getElem?_map, List.getElem?_map, List.getElem?_eq_getElem (by omega), List.getElem?_eq_getElem hi] at h1
  simp only [Option.map_some, Option.some.injEq] at h1
  exact List.getElem?_eq_some_iff.1 h1
 obtain ⟨h1, e1⟩ := key i hi
 obtain ⟨h2, e2⟩ := key j hj
 have hne : idx[i]'(by omega) ≠ idx[j]'(by omega) := by
  have := List.pairwise_iff_getElem.1 hn i j (by omega) (by omega) hij
  exact this
 rcases Nat.lt_or_gt_of_ne hne with hh | hh
 ·have := hpw _ _ h1 h2 hh
  rw [e1, e2] at this
  exact this
 ·have := hpw _ _ h2 h1 hh
  rw [e1, e2] at this
  intro B hb hb'
  exact this B hb' hb
theorem St.frame {H1 : Heap} {H0 : Base} {ls rest ls' : List Ob} (hS : St P H0 H (ls ++ rest)) (h1 : St P ⟨H, jN ls⟩ H1 ls') : St P H0 H1 (ls' ++ rest) := by
 have hls : St P H0 H ls := hS.sub (List.sublist_append_left ..)
 have h2 := hls.unbase h1
 have hsep := List.pairwise_append.1 hS.sep
 have hkeep : ∀ o ∈ rest, ∀ B, cA o.v = some B → aQ H1 B = aQ H B := by
  intro o ho B hB
  have hlt := (hS.own o (List.mem_append_right _ ho)).lt hB
  exact h1.old B hlt fun ⟨x, hx, hxb⟩ => hsep.2.2 x hx o ho B hxb hB
 refine ⟨h2.len, h2.old, ?_, ?_, ?_⟩
 ·intro o ho
  rcases List.mem_append.1 ho with ho | ho
  ·exact h2.own o ho
  ·exact (hS.own o (List.mem_append_right _ ho)).keep (hkeep o ho)
 ·intro o ho B hB
  rcases List.mem_append.1 ho with ho | ho
  ·exact h2.new o ho B hB
  ·exact hS.new o (List.mem_append_right _ ho) B hB
 ·rw [List.pairwise_append]
  refine ⟨h2.sep, hsep.2.1, ?_⟩
  intro x hx y hy B hb hb'
  rcases h1.new x hx B hb with hh | ⟨z, hz, hzb⟩
  ·have := (hS.own y (List.mem_append_right _ hy)).lt hb'
   have hh : H.length ≤ B := hh
   omega
  ·exact hsep.2.2 z hz y hy B hzb hb'
theorem b4J (t : TypeId) (k : IntKind) (n : Int) : unV P .neg t (.int k n) = some (.int k (k.wrap (0 - n))) := rfl
theorem a8a (ops : Array Oper) (d : Option Tmp) (op : Op) (ty : TypeId) (pos : String) (af : Array Edge) (j : Nat) (b : Bool) (l : List Value) (H' : Heap) (v : Value) :
 rdW P ops (some ⟨d, op, ty, pos, af, some (j, b)⟩) (some (l, H', v)) H = mD (pF ops j) l b (dU P ⟨d, op, ty, pos, af, some (j, b)⟩ l H fun v' _ => v' = v) True := by
 rw [← kX ops l d op ty pos af]
 unfold rdW
 split
 ·rename_i h1 h2
  cases h1; cases h2
  split
  ·rename_i h; simp [h]
  ·rename_i h; simp [h]
 ·rename_i h
  exact (h _ _ _ _ rfl rfl).elim
theorem a9d (t t2 : TypeId) (cx cy : Bool) (k : IntKind) (a b : Int) (K : Value → Prop) : cX P .and t t2 cx cy (.int k a) (.int k b) K = bS (cW P .and t t2 cx cy (.int k a) (.int k b)) K := by
 have h : (if k = k then eF .and k a b else none) = none := by split <;> rfl
 unfold cX; dsimp only
 rw [h]
theorem b0N (t t2 : TypeId) (cx cy : Bool) (k : IntKind) (a b : Int) (K : Value → Prop) : cX P .or t t2 cx cy (.int k a) (.int k b) K = bS (cW P .or t t2 cx cy (.int k a) (.int k b)) K := by
 have h : (if k = k then eF .or k a b else none) = none := by split <;> rfl
 unfold cX; dsimp only
 rw [h]
theorem a7U (t t2 : TypeId) (cx cy : Bool) (k : IntKind) (a b : Int) (K : Value → Prop) : cX P .xor t t2 cx cy (.int k a) (.int k b) K = bS (cW P .xor t t2 cx cy (.int k a) (.int k b)) K := by
 have h : (if k = k then eF .xor k a b else none) = none := by split <;> rfl
 unfold cX; dsimp only
 rw [h]
theorem a0d (t t2 : TypeId) (cx cy : Bool) (k : IntKind) (a b : Int) (K : Value → Prop) : cX P .andNot t t2 cx cy (.int k a) (.int k b) K = bS (cW P .andNot t t2 cx cy (.int k a) (.int k b)) K := by
 have h : (if k = k then eF .andNot k a b else none) = none := by split <;> rfl
 unfold cX; dsimp only
 rw [h]
theorem a7o (t t2 : TypeId) (cx cy : Bool) (k k' : IntKind) (a b : Int) (K : Value → Prop) : cX P .shl t t2 cx cy (.int k a) (.int k' b) K = bS (cW P .shl t t2 cx cy (.int k a) (.int k' b)) K := by
 have h : (if k = k' then eF .shl k a b else none) = none := by split <;> rfl
 unfold cX; dsimp only
 rw [h]
theorem a7b (t t2 : TypeId) (cx cy : Bool) (k k' : IntKind) (a b : Int) (K : Value → Prop) : cX P .shr t t2 cx cy (.int k a) (.int k' b) K = bS (cW P .shr t t2 cx cy (.int k a) (.int k' b)) K := by
 have h : (if k = k' then eF .shr k a b else none) = none := by split <;> rfl
 unfold cX; dsimp only
 rw [h]
theorem a8d (op : BinOp) (t t2 : TypeId) (cx cy : Bool) (a b : ByteArray) (K : Value → Prop) : cX P op t t2 cx cy (.string a) (.string b) K = bS (cW P op t t2 cx cy (.string a) (.string b)) K := rfl
theorem a8I (op : BinOp) (t t2 : TypeId) (cx cy : Bool) (a b : Array Value) (K : Value → Prop) : cX P op t t2 cx cy (.agg a) (.agg b) K = bS (cW P op t t2 cx cy (.agg a) (.agg b)) K := rfl
theorem a7i (op : BinOp) (t t2 : TypeId) (cx cy : Bool) (a b : Bool) (K : Value → Prop) : cX P op t t2 cx cy (.bool a) (.bool b) K = bS (cW P op t t2 cx cy (.bool a) (.bool b)) K := rfl
theorem a9E (n : Int) (h1 : -9223372036854775808 ≤ n) (h2 : n < 9223372036854775808) : IntKind.wrap .i64 n = n := by
 show (if (true && decide (n % 18446744073709551616 ≥ 9223372036854775808)) = true then n % 18446744073709551616 - 18446744073709551616 else n % 18446744073709551616) = n
 simp only [Bool.true_and, decide_eq_true_eq]
 omega
theorem b2R (n : Int) (h1 : -128 ≤ n) (h2 : n < 128) : IntKind.wrap .i8 n = n := by
 show (if (true && decide (n % 256 ≥ 128)) = true then n % 256 - 256 else n % 256) = n
 simp only [Bool.true_and, decide_eq_true_eq]
 omega
theorem gR (n : Int) (h1 : 0 ≤ n) (h2 : n < 18446744073709551616) : IntKind.wrap .u64 n = n := by
 show (if (false && decide (n % 18446744073709551616 ≥ 9223372036854775808)) = true then n % 18446744073709551616 - 18446744073709551616 else n % 18446744073709551616) = n
 simp only [Bool.false_and]
 rw [if_neg (by simp)]
 omega
theorem b1X (n : Int) (h1 : 0 ≤ n) (h2 : n < 4294967296) : IntKind.wrap .u32 n = n := by
 show (if (false && decide (n % 4294967296 ≥ 2147483648)) = true then n % 4294967296 - 4294967296 else n % 4294967296) = n
 simp only [Bool.false_and]
 rw [if_neg (by simp)]
 omega
theorem a9n (n : Int) (h1 : 0 ≤ n) (h2 : n < 65536) : IntKind.wrap .u16 n = n := by
 show (if (false && decide (n % 65536 ≥ 32768)) = true then n % 65536 - 65536 else n % 65536) = n
 simp only [Bool.false_and]
 rw [if_neg (by simp)]
 omega
theorem b5b (n : Int) (h1 : 0 ≤ n) (h2 : n < 256) : IntKind.wrap .u8 n = n := by
 show (if (false && decide (n % 256 ≥ 128)) = true then n % 256 - 256 else n % 256) = n
 simp only [Bool.false_and]
 rw [if_neg (by simp)]
 omega
end
end Go.Ds
namespace Go.Ds
noncomputable section
variable {P : Program}
def lO (P : Program) (t : TypeId) : List Field := match P.underlying t with | some (.struct fs) => fs.toList | _ => []
def tY : Value → Value → Bool
 | .int _ a, .int _ b => a == b
 | .bool a, .bool b => a == b
 | .string a, .string b => decide (a = b)
 | _, _ => false
def okC (P : Program) (t : TypeId) (x y : Value) : Bool := match P.underlying t with
 | some (.int _) => (match x, y with | .int k _, .int k' _ => decide (k = k') | _, _ => false)
 | some .bool => (match x, y with | .bool _, .bool _ => true | _, _ => false)
 | some .string => (match x, y with | .string _, .string _ => true | _, _ => false)
 | _ => false
theorem eq1 {t : TypeId} {x y : Value} (d : Nat) (h : okC P t x y = true) : aI P (Op.equalIn (d + 1) t x y) = some (tY x y) := by
 unfold okC at h
 split at h
 ·rename_i k0 hu
  split at h
  ·rename_i k a k' b
   have hk : k = k' := by simpa using h
   subst hk
   rw [Op.equalIn, aG, bN hu, Option.bind_some]
   simp only [if_true]
   rfl
  ·cases h
 ·rename_i hu
  split at h
  ·rw [Op.equalIn, aG, bN hu, Option.bind_some]; rfl
  ·cases h
 ·rename_i hu
  split at h
  ·rename_i a b
   rw [Op.equalIn, aG, bN hu, Option.bind_some]
   show some (a == b) = some (decide (a = b))
   rw [uV]
   congr 1
   simp [eq_comm]
  ·cases h
 ·cases h
theorem b5O {t : TypeId} {x y v : Value} {cs : Array Value} {off : Nat} (h : okC P t x y = true) (hc : cs[off]? = some v) : aI P (part t cs off) = some v := by
 have ha : aI P (isAgg t) = some false := by
  unfold isAgg
  unfold okC at h
  split at h
  ·rename_i hu; rw [aG, bN hu, Option.bind_some]; rfl
  ·rename_i hu; rw [aG, bN hu, Option.bind_some]; rfl
  ·rename_i hu; rw [aG, bN hu, Option.bind_some]; rfl
  ·cases h
 unfold part
 rw [aG, ha, Option.bind_some]
 simp only [Bool.false_eq_true, if_false, hc]
 rfl
theorem pT {t : TypeId} {xs ys : List Value} (d : Nat) (hu : P.underlying t = some (.struct (lO P t).toArray)) (hst : P.stoodInHeld t = false)
 (hf : ((lO P t).map fun f => (f.name != "_", f.offset)) = (List.range xs.length).map fun j => (true, j)) (hy : ys.length = xs.length)
 (hok : ((lO P t).all fun f => okC P f.type (xs.getD f.offset undef) (ys.getD f.offset undef)) = true) :
 aI P (Op.equalIn (d + 2) t (.agg xs.toArray) (.agg ys.toArray)) = some ((List.range xs.length).all fun j => tY (xs.getD j undef) (ys.getD j undef)) := by
 rw [List.all_eq_true] at hok
 have hmem : ∀ f ∈ lO P t, (f.name != "_") = true ∧ f.offset < xs.length := fun f hf' => by
  have : (f.name != "_", f.offset) ∈ (List.range xs.length).map fun j => (true, j) := by rw [← hf]; exact List.mem_map_of_mem hf'
  obtain ⟨j, hj, he⟩ := List.mem_map.1 this
  simp only [Prod.mk.injEq] at he
  exact ⟨he.1.symm, by rw [← he.2]; exact List.mem_range.1 hj⟩
 rw [a2B hu hst (fun f => tY (xs.getD f.offset undef) (ys.getD f.offset undef)) ?_]
 ·congr 1
  have h1 : (lO P t).all (fun f => tY (xs.getD f.offset undef) (ys.getD f.offset undef)) = ((lO P t).map fun f => (f.name != "_", f.offset)).all fun p => tY (xs.getD p.2 undef) (ys.getD p.2 undef) := by
   rw [List.all_map]; rfl
  rw [h1, hf, List.all_map]
  rfl
 ·intro f hf'
  obtain ⟨h1, h2⟩ := hmem f hf'
  refine ⟨by simpa using h1, ?_⟩
  have hx : xs.toArray[f.offset]? = some (xs.getD f.offset undef) := by
   rw [List.getElem?_toArray, List.getD_eq_getElem?_getD, List.getElem?_eq_getElem h2]; rfl
  have hy' : ys.toArray[f.offset]? = some (ys.getD f.offset undef) := by
   rw [List.getElem?_toArray, List.getD_eq_getElem?_getD, List.getElem?_eq_getElem (by omega)]; rfl
  rw [aG, b5O (hok f hf') hx, Option.bind_some, aG, b5O (hok f hf') hy', Option.bind_some]
  exact eq1 d (hok f hf')
theorem qN {t t2 : TypeId} {cx cy : Bool} {xs ys : List Value} (hu : P.underlying t = some (.struct (lO P t).toArray)) (hst : P.stoodInHeld t = false) (hg : P.eqGuardType P.depth t = false)
 (hf : ((lO P t).map fun f => (f.name != "_", f.offset)) = (List.range xs.length).map fun j => (true, j)) (hy : ys.length = xs.length)
 (hok : ((lO P t).all fun f => okC P f.type (xs.getD f.offset undef) (ys.getD f.offset undef)) = true) (hx : xs.all aV = true) (hys : ys.all aV = true) :
 cW P .eql t t2 cx cy (.agg xs.toArray) (.agg ys.toArray) = some (.bool ((List.range xs.length).all fun j => tY (xs.getD j undef) (ys.getD j undef))) ∧
 cW P .neq t t2 cx cy (.agg xs.toArray) (.agg ys.toArray) = some (.bool (!((List.range xs.length).all fun j => tY (xs.getD j undef) (ys.getD j undef)))) :=
 ⟨b0D _ hg hx hys (pT 9998 hu hst hf hy hok), a2m _ hg hx hys (pT 9998 hu hst hf hy hok)⟩
theorem b6j {t : TypeId} {k : IntKind} (hu : P.underlying t = some (.struct (lO P t).toArray)) (hst : P.stoodInHeld t = false)
 (hf : ((lO P t).map fun f => (f.name != "_", f.offset)) = (List.range 2).map fun j => (true, j))
 (hok : ∀ a b c d : Int, ((lO P t).all fun f => okC P f.type ([Value.int k a, .int k b].getD f.offset undef) ([Value.int k c, .int k d].getD f.offset undef)) = true) (a b : Int × Int) :
 aI P (Op.equal t (.agg #[.int k a.1, .int k a.2]) (.agg #[.int k b.1, .int k b.2])) = some (decide (b = a)) := by
 have hmd : Op.maxDepth = 9998 + 2 := by decide
 unfold Op.equal
 rw [hmd, pT (xs := [.int k a.1, .int k a.2]) (ys := [.int k b.1, .int k b.2]) 9998 hu hst hf rfl (hok _ _ _ _)]
 congr 1
 show ((a.1 == b.1) && ((a.2 == b.2) && true)) = _
 rw [Bool.eq_iff_iff]
 simp only [Bool.and_true, Bool.and_eq_true, beq_iff_eq, decide_eq_true_eq, Prod.ext_iff]
 constructor
 ·rintro ⟨h1, h2⟩; exact ⟨h1.symm, h2.symm⟩
 ·rintro ⟨h1, h2⟩; exact ⟨h1.symm, h2.symm⟩
theorem b6v {k : IntKind} (a : Int × Int) : Instr.sameBits 10000 (.agg #[.int k a.1, .int k a.2]) (.agg #[.int k a.1, .int k a.2]) = true := by
 show ((2 : Nat) == 2 && ([(Value.int k a.1, Value.int k a.1), (Value.int k a.2, Value.int k a.2)]).all fun (x, y) => Instr.sameBits 9999 x y) = true
 have h : ∀ n, Instr.sameBits 9999 (.int k n) (.int k n) = true := fun n => by
  show (k == k && n == n) = true
  cases k <;> simp <;> rfl
 simp [h]
section
variable {H : Heap} {α : Type} {n : Nat} {cel : α → List Value} {v : Value} {xs : List α}
theorem Sl.sliceH (h : Sl n cel H v xs) (o : Oper) (l : List Value) (H' : Heap) (k : IntKind) (a : Int) (K : Value → Heap → Prop) (h0 : 0 < xs.length) (h1 : 0 ≤ a) (h2 : a ≤ xs.length) :
 gM P o l H' (some n) v none (some (.int k a)) K = gP (iU v n 0 a.toNat) fun v => K v H' := by
 obtain ⟨m, rfl⟩ : ∃ m, n = m + 1 := ⟨n - 1, by have := h.pos; omega⟩
 exact h.rd.sliceH (aR h.hc xs) o l H' k a K h0 h1 h2
theorem Sl.sliceL (h : Sl n cel H v xs) (o : Oper) (l : List Value) (H' : Heap) (k : IntKind) (a : Int) (K : Value → Heap → Prop) (h0 : 0 < xs.length) (h1 : 0 ≤ a) (h2 : a ≤ xs.length) :
 gM P o l H' (some n) v (some (.int k a)) none K = gP (iU v n a.toNat (xs.length - a).toNat) fun v => K v H' := by
 obtain ⟨m, rfl⟩ : ∃ m, n = m + 1 := ⟨n - 1, by have := h.pos; omega⟩
 rw [h.rd.sliceL (aR h.hc xs) o l H' k a K h0 h1 h2]
 congr 2
 omega
theorem Sl.sub (h : Sl n cel H v xs) (lo k : Nat) (hk : lo + k ≤ xs.length) (h0 : 0 < xs.length) : Sl n cel H (iU v n lo k) ((xs.drop lo).take k) := by
 refine ⟨?_, h.hc, h.pos⟩
 have hne : xs.flatMap cel ≠ [] := fun e => by
  have := aR h.hc xs
  rw [e, List.length_nil] at this
  have hp := Nat.mul_pos h0 h.pos
  omega
 have := h.rd.sub lo k (by rw [aR h.hc, ← Nat.add_mul]; exact Nat.mul_le_mul_right _ hk) hne
 rw [kN h.hc, uI h.hc] at this
 exact this
theorem Sl.subH (h : Sl n cel H v xs) (k : Nat) (hk : k ≤ xs.length) (h0 : 0 < xs.length) : Sl n cel H (iU v n 0 k) (xs.take k) := by
 simpa using h.sub 0 k (by omega) h0
theorem Sl.subL (h : Sl n cel H v xs) (lo : Nat) (hk : lo ≤ xs.length) (h0 : 0 < xs.length) : Sl n cel H (iU v n lo (xs.length - lo)) (xs.drop lo) := by
 have := h.sub lo (xs.length - lo) (by omega) h0
 rwa [List.take_of_length_le (by simp)] at this
end
def a4G (P : Program) (ts : Array TypeId) (ty : TypeId) (cx cy : Bool) (x y : Value) : Option Value := (cJ P ⟨none, .call { callee := .builtin .max, args := #[gC cx 0 x, gC cy 1 y], argTypes := ts }, ty, "", #[], none⟩ [x, y] .nil).map (·.1)
theorem b4G (d : Option Tmp) (ty : TypeId) (pos : String) (af : Array Edge) (g : Option (Nat × Bool)) (ts : Array TypeId) (x y : Operand) (l : List Value) (H : Heap) (K : Value → Heap → Prop) :
 dU P ⟨d, .call { callee := .builtin .max, args := #[x, y], argTypes := ts }, ty, pos, af, g⟩ l H K = bH x l fun x' => bH y l fun y' => bS (a4G P ts ty (cY x) (cY y) x' y') fun v => K v H := by
 have h : opD P ⟨d, .call { callee := .builtin .max, args := #[x, y], argTypes := ts }, ty, pos, af, g⟩ l H = (a4G P ts ty (cY x) (cY y) (ev l x) (ev l y)).map fun v => (v, H) :=
  eR (P := P) ⟨d, .call { callee := .builtin .max, args := #[x, y], argTypes := ts }, ty, pos, af, g⟩ ⟨none, .call { callee := .builtin .max, args := #[gC (cY x) 0 (ev l x), gC (cY y) 1 (ev l y)], argTypes := ts }, ty, "", #[], none⟩ l [ev l x, ev l y] H
   (by cases x <;> cases y <;> rfl) (by cases x <;> cases y <;> kernel_rfl)
 have h2 : bZ ((a4G P ts ty (cY x) (cY y) (ev l x) (ev l y)).map fun v => (v, H)) K = bS (a4G P ts ty (cY x) (cY y) (ev l x) (ev l y)) fun v => K v H := by cases a4G P ts ty (cY x) (cY y) (ev l x) (ev l y) <;> rfl
 simp only [dU, h, bH, Op.operands, Call.operands, h2]
 simp [and_assoc]
theorem b0r (ts : Array TypeId) (ty : TypeId) (cx cy : Bool) (a b : Int) : a4G P ts ty cx cy (.int .i64 a) (.int .i64 b) = some (.int .i64 (max a b)) := by
 have h : a4G P ts ty cx cy (.int .i64 a) (.int .i64 b) = some (.int .i64 (if b > a then b else a)) := by cases cx <;> cases cy <;> kernel_rfl
 rw [h]
 congr 2
 split <;> omega
def a4r (P : Program) (ts : Array TypeId) (ty : TypeId) (cx cy : Bool) (x y : Value) : Option Value := (cJ P ⟨none, .call { callee := .builtin .min, args := #[gC cx 0 x, gC cy 1 y], argTypes := ts }, ty, "", #[], none⟩ [x, y] .nil).map (·.1)
theorem b2Y (d : Option Tmp) (ty : TypeId) (pos : String) (af : Array Edge) (g : Option (Nat × Bool)) (ts : Array TypeId) (x y : Operand) (l : List Value) (H : Heap) (K : Value → Heap → Prop) :
 dU P ⟨d, .call { callee := .builtin .min, args := #[x, y], argTypes := ts }, ty, pos, af, g⟩ l H K = bH x l fun x' => bH y l fun y' => bS (a4r P ts ty (cY x) (cY y) x' y') fun v => K v H := by
 have h : opD P ⟨d, .call { callee := .builtin .min, args := #[x, y], argTypes := ts }, ty, pos, af, g⟩ l H = (a4r P ts ty (cY x) (cY y) (ev l x) (ev l y)).map fun v => (v, H) :=
  eR (P := P) ⟨d, .call { callee := .builtin .min, args := #[x, y], argTypes := ts }, ty, pos, af, g⟩ ⟨none, .call { callee := .builtin .min, args := #[gC (cY x) 0 (ev l x), gC (cY y) 1 (ev l y)], argTypes := ts }, ty, "", #[], none⟩ l [ev l x, ev l y] H
   (by cases x <;> cases y <;> rfl) (by cases x <;> cases y <;> kernel_rfl)
 have h2 : bZ ((a4r P ts ty (cY x) (cY y) (ev l x) (ev l y)).map fun v => (v, H)) K = bS (a4r P ts ty (cY x) (cY y) (ev l x) (ev l y)) fun v => K v H := by cases a4r P ts ty (cY x) (cY y) (ev l x) (ev l y) <;> rfl
 simp only [dU, h, bH, Op.operands, Call.operands, h2]
 simp [and_assoc]
theorem a9D (ts : Array TypeId) (ty : TypeId) (cx cy : Bool) (a b : Int) : a4r P ts ty cx cy (.int .i64 a) (.int .i64 b) = some (.int .i64 (min a b)) := by
 have h : a4r P ts ty cx cy (.int .i64 a) (.int .i64 b) = some (.int .i64 (if b < a then b else a)) := by cases cx <;> cases cy <;> kernel_rfl
 rw [h]
 congr 2
 split <;> omega
section
variable {H : Heap}
def Var (H : Heap) (A n : Nat) (cs : List Value) : Prop := n = cs.length ∧ ∃ ty rw lo ver, aQ H A = some (.cells cs ty rw lo ver) ∧ lo ≤ cs.length
theorem Var.keep {H' : Heap} {A n : Nat} {cs : List Value} (h : Var H A n cs) (hk : ∀ B, B < H.length → aQ H' B = aQ H B) : Var H' A n cs := by
 obtain ⟨h1, ty, rw, lo, ver, h2, h3⟩ := h
 exact ⟨h1, ty, rw, lo, ver, by rw [hk A (bG h2), h2], h3⟩
theorem Var.ld {A n : Nat} {cs : List Value} (h : Var H A n cs) (s : Option Nat) (off : Nat) : gY (some false) s H (ptr A off n) = cs[off]? := by
 obtain ⟨rfl, ty, rw, lo, ver, h1, h2⟩ := h
 simp only [gY, bA, h1]
 by_cases h : off < cs.length
 ·rw [if_pos (by simp; omega)]
  simp only [Option.bind_some]
  rw [List.getElem?_take_of_lt (by omega), List.getElem?_drop]
  simp
 ·rw [if_neg (by simp; omega), List.getElem?_eq_none (by omega)]
  rfl
theorem Var.ldA {A n : Nat} {cs : List Value} (h : Var H A n cs) (m off : Nat) : gY (some true) (some m) H (ptr A off n) = if off + m ≤ cs.length then some (.agg ((cs.drop off).take m).toArray) else none := by
 obtain ⟨rfl, ty, rw, lo, ver, h1, h2⟩ := h
 simp only [gY, bA, h1, Option.bind_some]
 by_cases h : off + m ≤ cs.length
 ·rw [if_pos (by simp; omega), if_pos h]
  rfl
 ·rw [if_neg (by simp; omega), if_neg h]
  rfl
theorem St.var {P : Program} {H0 : Base} {os : List Ob} (hS : St P H0 H os) (i : Nat) {A n : Nat} {cs : List Value} (ho : os[i]? = some ⟨ptr A 0 n, 0, cs⟩) : Var H A n cs := by
 obtain ⟨h1, ty, lo, ver, h2, h3⟩ := hS.cell i ho
 exact ⟨h1, ty, true, lo, ver, h2, h3⟩
theorem St.va {H0 : Heap} {os : List Ob} (hS : St P H0 H os) {A n : Nat} {cs : List Value} (h : Var H0 A n cs) : Var H A n cs := h.keep hS.keep
end
theorem kL {P : Program} (t t2 : TypeId) (cx cy : Bool) (u x : UInt8) : cW P .add t t2 cx cy (.string ⟨#[u]⟩) (.string ⟨#[x]⟩) = some (.string ⟨#[u, x]⟩) := by
 rw [a3A _ _ _ _ _ _ (by show 1 + 1 < 9223372036854775808; decide)]
 rfl
theorem nE {P : Program} {H : Heap} {s t : TypeId} {v : Value} {n : Int} (h : RdAt H v 1 [.int .u8 n]) (hs : cU P s = true) (ht : gB P t = true) (hbt : cU P t = false) (h0 : 0 ≤ n) (h1 : n < 256) (K : Value → Heap → Prop) :
 lH P s t H v K = K (.string ⟨#[UInt8.ofNat n.toNat]⟩) H := by
 obtain ⟨m, rfl⟩ : ∃ m : Nat, n = Int.ofNat m := ⟨n.toNat, by simp [Int.toNat_of_nonneg h0]⟩
 have hm : m < 256 := by have : (m : Int) < 256 := h1; omega
 rcases h with ⟨_, h⟩ | ⟨A, i, e, row, ty, rw, lo, ver, k, g1, g2, g3, g4, g5, g6, rfl⟩
 ·cases h
 have hk : k = 1 := by simp at g6; omega
 subst hk
 have hc : bA H A i e 1 = some [.int .u8 (Int.ofNat m)] := by
  simp only [bA, g1]
  rw [if_pos (by simp at g4 ⊢; omega)]
  exact congrArg some g5
 have hb : eW [.int .u8 (Int.ofNat m)] = some ⟨#[UInt8.ofNat m]⟩ := by simp [eW, vF, tR, hm]
 have hd : opD P ⟨none, .convert s t (.const (.slice (some ⟨A, i, some e⟩) 1 1)), t, "", #[], none⟩ [] H = some (.string ⟨#[UInt8.ofNat m]⟩, H) := by
  have hf : flat (.slice (some ⟨A, i, some e⟩) 1 1) = false := rfl
  simp only [opD, ev, hf, hs, ht, hc, hb, Bool.false_and, Bool.false_eq_true, if_false, Bool.and_self, if_true, Option.bind_some, Option.map_some]
 unfold lH
 rw [hd]
 apply propext
 constructor
 ·rintro ⟨v, H1, h2, h3⟩
  injection (Option.some.inj h2) with e1 e2
  subst e1 e2
  exact h3
 ·intro h3
  exact ⟨_, _, rfl, h3⟩
theorem a0a {P : Program} {t : TypeId} {n : Nat} {elem : TypeId} {size : Nat} (ha : P.underlying t = some (.array n elem)) (hs : aE P elem = some size) (A i e : Nat) (k : IntKind) (j : Int) (h0 : 0 ≤ j) (h1 : j < n) :
 oR (aP P t) P t (ptr A i e) (.int k j) = some (ptr A (i + j.toNat * size) e) := by
 have hn : aP P t = none := by simp [aP, aH, ha]
 rw [hn]
 simp only [oR, vJ, ha, ptr, hs, Option.bind_some]
 rw [if_pos (by simp [h0, h1])]
end
end Go.Ds
namespace Go.Ds
section
variable {P : Program}
def b8t (inv : List Nat) (e : Edge) : Edge := { e with on := inv.getD e.on 0 }
def qM (inv : List Nat) (o : Oper) : Oper := { o with after := o.after.map (b8t inv), guard := o.guard.map fun g => (inv.getD g.1 0, g.2) }
def bX (π inv : List Nat) (ops : Array Oper) : Array Oper := (π.map fun i => qM inv (ops.getD i default)).toArray
def a4o (π inv : List Nat) (ops : Array Oper) : Bool :=
 decide (π.length = ops.size) && decide (inv.length = ops.size) && (List.range ops.size).all (fun i => decide (π.getD i 0 < ops.size) && decide (inv.getD i 0 < ops.size) && decide (inv.getD (π.getD i 0) 0 = i) && decide (π.getD (inv.getD i 0) 0 = i)) &&
 ops.toList.all fun o => o.after.toList.all (fun e => decide (e.on < ops.size)) && (match o.guard with | some g => decide (g.1 < ops.size) | none => true)
structure Perm (π inv : List Nat) (ops : Array Oper) : Prop where
 len : π.length = ops.size
 pi : ∀ i, i < ops.size → π.getD i 0 < ops.size
 iv : ∀ i, i < ops.size → inv.getD i 0 < ops.size
 ip : ∀ i, i < ops.size → inv.getD (π.getD i 0) 0 = i
 pv : ∀ i, i < ops.size → π.getD (inv.getD i 0) 0 = i
 edge : ∀ (i : Nat) (o : Oper), ops[i]? = some o → ∀ e ∈ o.after, e.on < ops.size
 guard : ∀ (i : Nat) (o : Oper) (g : Nat × Bool), ops[i]? = some o → o.guard = some g → g.1 < ops.size
theorem b4K {π inv : List Nat} {ops : Array Oper} (h : a4o π inv ops = true) : Perm π inv ops := by
 unfold a4o at h
 simp only [Bool.and_eq_true, decide_eq_true_eq, List.all_eq_true, List.mem_range] at h
 obtain ⟨⟨⟨h1, h2⟩, h3⟩, h4⟩ := h
 refine ⟨h1, fun i hi => (h3 i hi).1.1.1, fun i hi => (h3 i hi).1.1.2, fun i hi => (h3 i hi).1.2, fun i hi => (h3 i hi).2, fun i o ho e he => ?_, fun i o g ho hg => ?_⟩
 ·exact (h4 o (List.mem_of_getElem? (i := i) (by simpa using ho))).1 e (by simpa using he)
 ·have := (h4 o (List.mem_of_getElem? (i := i) (by simpa using ho))).2
  rw [hg] at this
  simpa using this
variable {π inv : List Nat} {ops : Array Oper}
theorem a3n (p : Nat) : (bX π inv ops)[p]? = (π[p]?).map fun i => qM inv (ops.getD i default) := by
 simp [bX]
theorem iR (D : Perm π inv ops) {p i : Nat} {o : Oper} (hp : p < ops.size) (hi : π.getD p 0 = i) (ho : ops[i]? = some o) : (bX π inv ops)[p]? = some (qM inv o) := by
 rw [a3n]
 have h1 : π[p]? = some i := by
  rw [List.getD_eq_getElem?_getD] at hi
  rw [List.getElem?_eq_getElem (by rw [D.len]; exact hp)] at hi ⊢
  simpa using hi
 rw [h1]
 simp only [Option.map_some]
 rw [Array.getD_eq_getD_getElem?, ho]
 rfl
theorem iF (D : Perm π inv ops) : (bX π inv ops).size = ops.size := by simp [bX, D.len]
theorem a0t (D : Perm π inv ops) (tmps : Array Value) {j : Nat} (hj : j < ops.size) : yielded (bX π inv ops) tmps (inv.getD j 0) = yielded ops tmps j := by
 have ho : ops[j]? = some ops[j] := Array.getElem?_eq_some_iff.2 ⟨hj, rfl⟩
 unfold yielded
 rw [iR D (D.iv j hj) (D.pv j hj) ho, ho]
 rfl
theorem a1Q (D : Perm π inv ops) (tmps : Array Value) {i : Nat} {o : Oper} (ho : ops[i]? = some o) : Region.wanted (qM inv o) (yielded (bX π inv ops) tmps) = Region.wanted o (yielded ops tmps) := by
 unfold Region.wanted
 have e : (qM inv o).guard = o.guard.map fun g => (inv.getD g.1 0, g.2) := rfl
 rw [e]
 cases hg : o.guard with
 | none => rfl
 | some g =>
   simp only [Option.map_some]
   rw [a0t D tmps (D.guard i o g ho hg)]
theorem b5a (ro : Option Nat) (ρ : Operand → Value) (o : Oper) : (qM inv o).semAt ro ρ = o.semAt ro ρ := by
 obtain ⟨dst, op, type, pos, after, guard⟩ := o
 rfl
theorem a6W (w : World) (ρ : Operand → Value) (o : Oper) : (qM inv o).about P w ρ = o.about P w ρ := by
 obtain ⟨dst, op, type, pos, after, guard⟩ := o
 rfl
theorem a9H (F : Fence) (n : Nat) (o : Oper) (a : Act) (next : Act → World → Prop) (Q : Exit → Act → World → Prop) (r : Result Next) : (qM inv o).uponIn F n P a next Q r = o.uponIn F n P a next Q r := by
 obtain ⟨dst, op, type, pos, after, guard⟩ := o
 cases r with
 | ok x w => cases x <;> rfl
 | halt x w => cases x <;> rfl
theorem a8Z (D : Perm π inv ops) (F : Fence) (n : Nat) (Q : Exit → Act → World → Prop) {i : Nat} (hi : i < ops.size) (K : Act → World → Prop) (a : Act) (w : World) :
 wpOpIn F n P (bX π inv ops) Q (inv.getD i 0) K a w = wpOpIn F n P ops Q i K a w := by
 have ho : ops[i]? = some ops[i] := Array.getElem?_eq_some_iff.2 ⟨hi, rfl⟩
 unfold wpOpIn
 rw [iR D (D.iv i hi) (D.pv i hi) ho, ho]
 simp only [a1Q D a.tmps ho, Oper.wpIn, a6W, a9H, b5a]
 rfl
def b7R (inv : List Nat) (n : Nat) (listed listed' : Array Bool) : Prop := listed.size = n ∧ listed'.size = n ∧ ∀ i, i < n → listed.getD i false = listed'.getD (inv.getD i 0) false
theorem oN (D : Perm π inv ops) {listed listed' : Array Bool} (hc : b7R inv ops.size listed listed') {i : Nat} (hi : i < ops.size) :
 i ∈ Region.ready .any ops listed ↔ inv.getD i 0 ∈ Region.ready .any (bX π inv ops) listed' := by
 have ho : ops[i]? = some ops[i] := Array.getElem?_eq_some_iff.2 ⟨hi, rfl⟩
 have ho' := iR D (D.iv i hi) (D.pv i hi) ho
 have hsz := iF D
 obtain ⟨c1, c2, c3⟩ := hc
 constructor
 ·intro h
  obtain ⟨o, h1, h2, h3⟩ := gG c1 h
  rw [ho] at h1
  obtain rfl := Option.some.inj h1
  refine rB (by rw [hsz]; exact c2) ho' (by rw [← c3 i hi]; exact h2) ?_
  intro e he hb
  have he' : e ∈ (ops[i]).after.map (b8t inv) := he
  obtain ⟨e0, he0, rfl⟩ := Array.mem_map.1 he'
  have := h3 e0 he0 hb
  show listed'.getD (inv.getD e0.on 0) false = true
  rw [← c3 _ (D.edge i _ ho e0 he0)]
  exact this
 ·intro h
  obtain ⟨o, h1, h2, h3⟩ := gG (by rw [hsz]; exact c2) h
  rw [ho'] at h1
  obtain rfl := Option.some.inj h1
  refine rB c1 ho (by rw [c3 i hi]; exact h2) ?_
  intro e he hb
  have := h3 (b8t inv e) (Array.mem_map.2 ⟨e, he, rfl⟩) hb
  rw [c3 _ (D.edge i _ ho e he)]
  exact this
theorem b1g (D : Perm π inv ops) (F : Fence) (k : Nat) {Q : Exit → Act → World → Prop} : ∀ (fuel : Nat) (listed listed' : Array Bool) (a : Act) (w : World), b7R inv ops.size listed listed' →
 wpAnyIn F k P .any (bX π inv ops) Q fuel listed' a w → wpAnyIn F k P .any ops Q fuel listed a w := by
 have hsz := iF D
 have nil1 : ∀ {listed listed' : Array Bool}, b7R inv ops.size listed listed' → (Region.ready .any ops listed = [] ↔ Region.ready .any (bX π inv ops) listed' = []) := by
  intro listed listed' hc
  constructor
  ·intro h
   cases hr : Region.ready .any (bX π inv ops) listed' with
   | nil => rfl
   | cons p r =>
     exfalso
     have hp : p ∈ Region.ready .any (bX π inv ops) listed' := by rw [hr]; exact List.mem_cons_self ..
     obtain ⟨o, h1, _, _⟩ := gG (by rw [hsz]; exact hc.2.1) hp
     have hpn : p < ops.size := by rw [← hsz]; exact (Array.getElem?_eq_some_iff.1 h1).1
     have := (oN D hc (D.pi p hpn)).2 (by rw [D.ip p hpn]; exact hp)
     rw [h] at this
     cases this
  ·intro h
   cases hr : Region.ready .any ops listed with
   | nil => rfl
   | cons i r =>
     exfalso
     have hi : i ∈ Region.ready .any ops listed := by rw [hr]; exact List.mem_cons_self ..
     obtain ⟨o, h1, _, _⟩ := gG hc.1 hi
     have := (oN D hc (Array.getElem?_eq_some_iff.1 h1).1).1 hi
     rw [h] at this
     cases this
 intro fuel
 induction fuel with
 | zero =>
   intro listed listed' a w hc h
   exact ⟨(nil1 hc).2 h.1, h.2⟩
 | succ fuel ih =>
   intro listed listed' a w hc h
   refine ⟨fun hn => h.1 ((nil1 hc).1 hn), fun i hi => ?_⟩
   obtain ⟨o, h1, _, _⟩ := gG hc.1 hi
   have hin := (Array.getElem?_eq_some_iff.1 h1).1
   have h2 := h.2 _ ((oN D hc hin).1 hi)
   rw [a8Z D F k Q hin] at h2
   refine wpOpIn_mono (fun a' w' h3 => ih _ _ a' w' ⟨by simpa using hc.1, by simpa using hc.2.1, fun j hj => ?_⟩ h3) h2
   have e1 := kO (listed := listed) (i := i) (by rw [hc.1]; exact hin) j
   have e2 := kO (listed := listed') (i := inv.getD i 0) (by rw [hc.2.1]; exact D.iv i hin) (inv.getD j 0)
   have e3 : (inv.getD j 0 = inv.getD i 0) ↔ j = i := ⟨fun h => by rw [← D.pv j hj, h, D.pv i hin], fun h => by rw [h]⟩
   rw [Bool.eq_iff_iff, e1, e2, e3, hc.2.2 j hj]
end
end Go.Ds
namespace Go.Ds
section
variable {P : Program} {H : Heap} {π inv : List Nat} {ops : Array Oper}
theorem Sim.drawM (cD : P.follows .mixedOrders = true) {id : Nat} (Dp : Perm π inv ops) {fl : Fl} (D : Draw P fl (bX π inv ops)) {T : Nat → List Value × Heap} {val : Nat → Value} (X : Text P (bX π inv ops) T val)
 (hread : ∀ i m o, (i, m) ∈ dY fl (bX π inv ops) → (bX π inv ops)[i]? = some o → Region.wanted o (aS (bX π inv ops) (T i).1) = true → ∃ H2, opD P o (T i).1 (T m).2 = some (val i, H2)) :
 Sim P (.region id ops true) (T 0).1 (T 0).2 .normal (T ops.size).1 (T ops.size).2 := by
 intro ro k B ρ w a hr hE hl hM hB
 have hsz := iF Dp
 have := zM D X hread ro k B hr hE hM
 rw [hsz] at this
 exact wpIn_region_any cD (b1g Dp (fe ro) k ops.size _ _ a _ ⟨by simp, by simp, fun i hi => by
  have := Dp.iv i hi
  simp only [Array.getD_eq_getD_getElem?, Array.getElem?_replicate, hi, this, if_true]⟩ this)
theorem xH (D : Perm π inv ops) (l : List Value) {j : Nat} (hj : j < ops.size) : aS (bX π inv ops) l (inv.getD j 0) = aS ops l j := by
 have ho : ops[j]? = some ops[j] := Array.getElem?_eq_some_iff.2 ⟨hj, rfl⟩
 unfold aS
 rw [iR D (D.iv j hj) (D.pv j hj) ho, ho]
 rfl
theorem qQ (D : Perm π inv ops) (l : List Value) {i : Nat} {o : Oper} (ho : ops[i]? = some o) : Region.wanted (qM inv o) (aS (bX π inv ops) l) = Region.wanted o (aS ops l) := by
 unfold Region.wanted
 have e : (qM inv o).guard = o.guard.map fun g => (inv.getD g.1 0, g.2) := rfl
 rw [e]
 cases hg : o.guard with
 | none => rfl
 | some g =>
   simp only [Option.map_some]
   rw [xH D l (D.guard i o g ho hg)]
theorem a6F (o : Oper) (l : List Value) (K : Value → Heap → Prop) : dU P (qM inv o) l H K = dU P o l H K := by
 obtain ⟨dst, op, type, pos, after, guard⟩ := o
 rfl
theorem zD (D : Perm π inv ops) : ∀ (os : List Oper) (tr : List (List Value × Heap × Value)) (l : List Value) (H : Heap) (K : List (List Value × Heap × Value) → List Value → Heap → Prop), (∀ o ∈ os, ∃ i : Nat, ops[i]? = some o) →
 dZ P (bX π inv ops) (os.map (qM inv)) tr l H K = dZ P ops os tr l H K
 | [], _, _, _, _, _ => rfl
 | o :: os, tr, l, H, K, h => by
   obtain ⟨i, ho⟩ := h o (by simp)
   have ih := fun tr l H => zD D os tr l H K fun o ho => h o (by simp [ho])
   rw [List.map_cons, dZ, dZ, qQ D l ho]
   have e : (qM inv o).dst = o.dst := rfl
   simp only [a6F, e, ih]
def b6U (o : Option Oper) (os : List Oper) : List Oper := match o with | some o => o :: os | none => os
def sel (os : List Oper) : List Nat → List Oper
 | [] => []
 | i :: π => b6U os[i]? (sel os π)
theorem b5s (os : List Oper) : sel os [] = [] := rfl
theorem a3a (os : List Oper) (i : Nat) (π : List Nat) : sel os (i :: π) = b6U os[i]? (sel os π) := rfl
theorem zW (o : Oper) (os : List Oper) : b6U (some o) os = o :: os := rfl
theorem a5H (os : List Oper) : ∀ (π : List Nat), (∀ i ∈ π, i < os.length) → sel os π = π.map fun i => os.toArray.getD i default
 | [], _ => rfl
 | i :: π, h => by
   have hi := h i (by simp)
   rw [a3a, a5H os π fun j hj => h j (by simp [hj]), List.getElem?_eq_getElem hi, zW, List.map_cons]
   congr 1
   simp [Array.getD_eq_getD_getElem?, hi]
def qZ (P : Program) (os : List Oper) (tr : List (List Value × Heap × Value)) (H1 : Heap) (π : List Nat) : List (Nat × Nat) → Prop
 | [] => True
 | (p, m) :: r => rdW P os.toArray (os[π.getD p 0]?) tr[p]? (trH tr[m]? H1) ∧ qZ P os tr H1 π r
theorem a5a (os : List Oper) (tr) (H1 : Heap) (π : List Nat) : qZ P os tr H1 π [] = True := rfl
theorem a3f (os : List Oper) (tr) (H1 : Heap) (π : List Nat) (p m : Nat) (r : List (Nat × Nat)) : qZ P os tr H1 π ((p, m) :: r) = (rdW P os.toArray (os[π.getD p 0]?) tr[p]? (trH tr[m]? H1) ∧ qZ P os tr H1 π r) := rfl
theorem wC {os : List Oper} {tr} {H1 : Heap} {π : List Nat} : ∀ {tab : List (Nat × Nat)}, qZ P os tr H1 π tab → ∀ x ∈ tab, rdW P os.toArray (os[π.getD x.1 0]?) tr[x.1]? (trH tr[x.2]? H1)
 | [], _, x, hx => by cases hx
 | (i, m) :: r, h, x, hx => by
   rcases List.mem_cons.1 hx with rfl | hx
   ·exact h.1
   ·exact wC h.2 x hx
theorem Wp.drwM (cD : P.follows .mixedOrders = true) {id : Nat} {os : List Oper} {l : List Value} {Q : fD} (π inv : List Nat) (fl : Fl) (tab : List (Nat × Nat)) (hp : a4o π inv os.toArray = true)
 (htab : wI P fl (bX π inv os.toArray) = some tab) (hn : lT (bX π inv os.toArray) tab = true)
 (h : dZ P os.toArray (sel os π) [] l H fun tr l1 H1 => Q .normal l1 H1 ∧ qZ P os tr H1 π tab) : Wp P (.region id os.toArray true) l H Q := by
 have Dp := b4K hp
 obtain ⟨D, htb⟩ := xB htab
 have hsz := iF Dp
 have hmem : ∀ i ∈ π, i < os.length := fun i hi => by
  obtain ⟨p, hpl, hpe⟩ := List.mem_iff_getElem.1 hi
  have := Dp.pi p (by rw [← Dp.len]; exact hpl)
  rw [List.getD_eq_getElem?_getD, List.getElem?_eq_getElem hpl, Option.getD_some, hpe] at this
  simpa using this
 have hsel : (sel os π).map (qM inv) = (bX π inv os.toArray).toList := by
  rw [a5H os π hmem]
  simp [bX]
 rw [← zD Dp (sel os π) [] l H _ (fun o ho => by
  rw [a5H os π hmem, List.mem_map] at ho
  obtain ⟨i, hi, rfl⟩ := ho
  have := hmem i hi
  exact ⟨i, by simp [Array.getD_eq_getD_getElem?, this]⟩), hsel] at h
 obtain ⟨T, val, l', H', ext, h0, h1, h2, h3, h4, h5, h6⟩ := mS (bX π inv os.toArray).toList 0 rfl [] l H h
 have hlen : (bX π inv os.toArray).toList.length = os.toArray.size := by rw [Array.length_toList, hsz]
 rw [hlen] at h1 h2 h3 h4
 have := Sim.drawM cD (id := id) Dp D (T := T) (val := val) ⟨fun k hk => by rw [hsz] at hk; simpa using h4 k hk⟩ fun i m o hm ho hw => by
  rw [← htb] at hm
  have hr := wC h6 (i, m) hm
  have hi : i < os.toArray.size := by rw [← hsz]; exact (Array.getElem?_eq_some_iff.1 ho).1
  have hpi := Dp.pi i hi
  have hoo : os.toArray[π.getD i 0]? = some (os.toArray[π.getD i 0]) := Array.getElem?_eq_some_iff.2 ⟨hpi, rfl⟩
  have hat := iR (inv := inv) Dp hi rfl hoo
  rw [ho] at hat
  have hat := Option.some.inj hat
  have hoo' : os[π.getD i 0]? = some (os.toArray[π.getD i 0]) := by rw [← hoo]; simp
  simp only [List.nil_append] at hr
  rw [hoo', h3 i hi] at hr
  unfold rdW at hr
  rw [hat, qQ Dp _ hoo] at hw
  have hr := hr hw
  have hno : qO o = true := by
   unfold lT at hn
   have := List.all_eq_true.1 hn (i, m) hm
   simpa [ho] using this
  have hTm : trH ext[m]? H' = (T m).2 ∨ os.toArray.size < m := by
   unfold trH
   by_cases hm2 : m < os.toArray.size
   ·left; rw [h3 m hm2]
   ·by_cases hm3 : m = os.toArray.size
    ·left
     rw [List.getElem?_eq_none (by omega), hm3, h1]
    ·right; omega
  rcases hTm with hTm | hTm
  ·rw [hTm, ← a6F (inv := inv), ← hat] at hr
   obtain ⟨v, H2, h7, h8⟩ := a6L hno hr
   exact ⟨H2, by rw [h7, h8]⟩
  ·exfalso
   rw [htb] at hm
   have := vL hm
   rw [hsz] at this
   omega
 rw [h0, h1] at this
 exact ⟨_, _, _, this, h5⟩
end
end Go.Ds
namespace Go.Ds
def RA :=
 And.intro @b3S <| And.intro @a9j <| And.intro @b3J <| And.intro @b6t <| And.intro @b7U <| And.intro @b1R <| And.intro @b4o <| And.intro @b6V <| And.intro @b4u <| And.intro @b3F <| And.intro @b0O <| And.intro @a2w <| And.intro @a8V <| And.intro @a9P <| And.intro @a7S <| And.intro @a5k <| And.intro @a5T <| And.intro @a2c <| And.intro @b2f <| And.intro @a3S <| And.intro @b0k <| And.intro @b0m <| And.intro @a7z <| And.intro @a8L <| And.intro @b4g <| And.intro @a8g <| And.intro @vP <| And.intro @xG <| And.intro @a5v <| And.intro @b0A <| And.intro @a9c <| And.intro @b2J <| And.intro @xM <| And.intro @xO <| And.intro @a9K <| And.intro @b6p <| And.intro @a1J <| And.intro @a1A <| And.intro @a7u <| And.intro @b1E <| And.intro @a0P <| And.intro @a3X <| And.intro @a5f <| And.intro @a4s <| And.intro @a5O <| And.intro @a1X <| And.intro @xN <| And.intro @a8f <| And.intro @b4G <| And.intro @b2Y <| And.intro @b0H <| And.intro @a3L <| And.intro @a8A <| And.intro @a8m <| And.intro @a4B <| And.intro @a4W <| And.intro @a3m <| And.intro @a2a <| And.intro @a9U <| And.intro @a8S <| And.intro @xF <| And.intro @a4E <| And.intro @a3h <| And.intro @xI <| And.intro @a1V <| And.intro @a3Q <| And.intro @a2j <| @a9G
def RB :=
 And.intro @b5k <| And.intro @a4h <| And.intro @a5u <| And.intro @a7D <| And.intro @a5s <| And.intro @a3e <| And.intro @a1I <| And.intro @b0x <| And.intro @a2v <| And.intro @a3s <| And.intro @b3l <| And.intro @a7T <| And.intro @a3J <| And.intro @b4N <| And.intro @b2K <| And.intro @b3t <| And.intro @b4Q <| And.intro @a5B <| And.intro @a3d <| And.intro @b2V <| And.intro @b7A <| And.intro @b1J <| And.intro @a2s <| And.intro @a5U <| And.intro @b3B <| And.intro @b3L <| And.intro @b1C <| And.intro @a7L <| And.intro @a7s <| And.intro @a7A <| And.intro @a9a <| And.intro @a8D <| And.intro @a8w <| And.intro @a7J <| And.intro @a8i <| And.intro @a8c <| And.intro @a8C <| And.intro @a8k <| And.intro @a9d <| And.intro @b0N <| And.intro @a7U <| And.intro @a0d <| And.intro @a7o <| And.intro @a7b <| And.intro @a8d <| And.intro @a8I <| And.intro @a7i <| And.intro @b0l <| And.intro @b1O <| And.intro @b0p <| And.intro @b4M <| And.intro @b0G <| And.intro @a2x <| And.intro @a5n <| And.intro @a5j <| And.intro @b4Y <| And.intro @b1q <| And.intro @a2y <| And.intro @b1o <| And.intro @b2e <| And.intro @a7q <| And.intro @a5D <| And.intro @b1N <| And.intro @a7B <| And.intro @a4X <| And.intro @a7Y <| And.intro @b1L <| And.intro @a4S <| And.intro @a8x <| And.intro @a6X <| And.intro @a3R <| And.intro @a7p <| And.intro @a5L <| And.intro @b5s <| And.intro @a3a <| And.intro @zW <| And.intro @a5a <| And.intro @a3f <| And.intro @b5e <| And.intro @b1G <| And.intro @a8a <| And.intro @b1h <| And.intro @b1A <| And.intro @a8z <| And.intro @b1W <| And.intro @a7R <| And.intro @a0Y <| And.intro @a5i <| And.intro @a1p <| And.intro @a4z <| And.intro @a4T <| And.intro @b0i <| And.intro @b1M <| And.intro @a8e <| And.intro @a9t <| And.intro @a1u <| And.intro @a0N <| And.intro @a2F <| And.intro @a2U <| And.intro @a3l <| And.intro @c1e <| And.intro @b9z <| And.intro @b4b <| And.intro @b2F <| And.intro @b0r <| And.intro @a9D <| And.intro @a9Z <| And.intro @a4c <| And.intro @b4J <| And.intro @a9E <| And.intro @b2R <| And.intro @gR <| And.intro @b1X <| And.intro @a9n <| @b5b
theorem RT :
 (∀ {α : Type} (l : List α), [] ++ l = l) ∧
 (∀ {α : Type} (l : List α), l ++ [] = l) ∧
 (∀ {α : Type} {a : α} {l m : List α}, a :: l ++ m = a :: (l ++ m)) ∧
 (∀ (cs : List Value) (i : Nat) (v : Value) (vs : List Value), aX cs i (v :: vs) = aX (cs.set i v) (i + 1) vs) ∧
 (∀ (cs : List Value) (i : Nat), aX cs i [] = cs) ∧
 (∀ {α : Type} {x : α} {xs : List α} {a : α}, (x :: xs).set 0 a = a :: xs) ∧
 (∀ {α : Type} {x : α} {xs : List α} {i : Nat} {a : α}, (x :: xs).set (i + 1) a = x :: xs.set i a) ∧
 (∀ (n : Nat), 0 + n = n) ∧
 (∀ (n : Nat), n * 1 = n) ∧
 (∀ (n : Nat), n + 0 = n) :=
 ⟨@List.nil_append, @List.append_nil, @List.cons_append, @iK, @mE, @List.set_cons_zero, @List.set_cons_succ, @Nat.zero_add, @Nat.mul_one, @Nat.add_zero⟩
end Go.Ds
