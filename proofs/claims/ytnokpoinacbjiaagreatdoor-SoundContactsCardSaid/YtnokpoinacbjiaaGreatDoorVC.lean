/-
  A part of the proof of SoundContacts.
-/
import Derived.Test.YtnokpoinacbjiaaGreatDoorVA
import Derived.Test.YtnokpoinacbjiaaGreatDoorVB
import Derived.Test.YtnokpoinacbjiaaGreatDoorProg
import Derived.KernelRfl
import Derived.Lib.LaidTab
import Derived.Stop.LaidErr
import Derived.Laws.Strings
set_option linter.unusedVariables false
set_option linter.unusedSimpArgs false
set_option linter.defProp false
set_option linter.unusedSectionVars false
namespace Go.Ds
noncomputable section
inductive Pth where
 | z
 | l (p : Pth)
 | r (p : Pth)
inductive Fr where
 | e
 | n (v : Value) (l r : Fr)
def a4D : Nat → Nat → Pth := fun f => Nat.rec (motive := fun _ => Nat → Pth) (fun _ => .z) (fun _ ih k => Nat.rec (motive := fun _ => Pth) .z (fun k _ => Bool.rec (motive := fun _ => Pth) (.r (ih (Nat.div k 2))) (.l (ih (Nat.div k 2))) (Nat.beq (Nat.mod k 2) 0)) k) f
def kE (k : Nat) : Pth := a4D k k
def mY (p : Pth) : Fr → Value := Pth.rec (motive := fun _ => Fr → Value)
 (fun f => Fr.rec (motive := fun _ => Value) undef (fun v _ _ _ _ => v) f)
 (fun _ ih f => Fr.rec (motive := fun _ => Value) undef (fun _ l _ _ _ => ih l) f)
 (fun _ ih f => Fr.rec (motive := fun _ => Value) undef (fun _ _ r _ _ => ih r) f) p
def oQ {α : Type} (v : Value) (p : Pth) : Fr → (Fr → α) → α := Pth.rec (motive := fun _ => Fr → (Fr → α) → α)
 (fun f K => Fr.rec (motive := fun _ => α) (K (.n v .e .e)) (fun _ l r _ _ => K (.n v l r)) f)
 (fun _ ih f K => Fr.rec (motive := fun _ => α) (ih .e fun l => K (.n undef l .e)) (fun w l r _ _ => ih l fun l => K (.n w l r)) f)
 (fun _ ih f K => Fr.rec (motive := fun _ => α) (ih .e fun r => K (.n undef .e r)) (fun w l r _ _ => ih r fun r => K (.n w l r)) f) p
def lB {α : Type} (p : Pth) : (Pth → α) → α := Pth.rec (motive := fun _ => (Pth → α) → α) (fun K => K .z) (fun _ ih K => ih fun p => K (.l p)) (fun _ ih K => ih fun p => K (.r p)) p
inductive LArg where
 | t (p : Pth)
 | c (v : Value)
def lU (f : Fr) (x : LArg) : Value := LArg.rec (motive := fun _ => Value) (fun p => mY p f) (fun v => v) x
inductive Rs where
 | no
 | ok (v : Value) (H : Heap)
 | th (v : Value) (H : Heap)
def nC {α : Type} (v : Value) (K : Value → α) : α :=
 match v with
 | .bool b => K (.bool b)
 | .int k n => K (.int k n)
 | .string s => K (.string s)
 | .pointer a => K (.pointer a)
 | .slice a n c => K (.slice a n c)
 | .map r => K (.map r)
 | .func fn a b => K (.func fn a b)
 | .agg cs => K (.agg cs)
 | .tuple vs => K (.tuple vs)
 | v => K v
inductive LOp where
 | bad
 | mv (x : LArg)
 | pick (c a b : LArg)
 | bin (g : IntKind → Int → Int → Option Value) (x y : LArg)
 | not (x : LArg)
 | ld1 (x : LArg)
 | ldn (n : Nat) (x : LArg)
 | st (n : Nat) (x y : LArg)
 | fa (off : Nat) (x : LArg)
 | ixs (size : Nat) (x i : LArg)
 | ixa (n size : Nat) (x i : LArg)
 | ext (i : Nat) (x : LArg)
 | f1 (off : Nat) (x : LArg)
 | fn (off n : Nat) (x : LArg)
 | len (x : LArg)
 | slen (x : LArg)
 | app (elem size bytes : Nat) (x y : LArg)
 | alloc (t : TypeId) (cs : List Value)
 | callF (f : FuncId) (p : Pth) (args : List LArg)
 | callV (g : LArg) (args : List LArg)
 | gen (o : Oper)
inductive LOps where
 | nil
 | cons (d : Option Pth) (o : LOp) (rest : LOps)
 | gcons (p : Pth) (w : Bool) (d : Option Pth) (o : LOp) (rest : LOps)
inductive LCode where
 | bad
 | skip
 | reg (ops : LOps)
 | drw (ops : LOps) (tab : List (Nat × Option Nat × Option (Pth × Bool) × LOp))
 | seq (a b : LCode)
 | cond (c : LArg) (x y : LCode)
 | block (id : Nat) (b : LCode)
 | loop (b : LCode)
 | exit (id : Nat)
 | ret
 | range (g : LArg) (ps : List Pth) (pp : List Pth) (params : Array Tmp) (assign body : Code) (a b : LCode)
inductive LRes where
 | t (p : Pth)
 | c1 (p : Pth)
 | cn (n : Nat) (p : Pth)
structure LFunc where
 ps : List Pth
 body : LCode
 res : List LRes
inductive LT where
 | e
 | n (g : Option LFunc) (l r : LT)
def a0x (p : Pth) : LT → Option LFunc := Pth.rec (motive := fun _ => LT → Option LFunc)
 (fun f => LT.rec (motive := fun _ => Option LFunc) none (fun v _ _ _ _ => v) f)
 (fun _ ih f => LT.rec (motive := fun _ => Option LFunc) none (fun _ l _ _ _ => ih l) f)
 (fun _ ih f => LT.rec (motive := fun _ => Option LFunc) none (fun _ _ r _ _ => ih r) f) p
def qQ {α : Type} (v : LFunc) (p : Pth) : LT → (LT → α) → α := Pth.rec (motive := fun _ => LT → (LT → α) → α)
 (fun f K => LT.rec (motive := fun _ => α) (K (.n (some v) .e .e)) (fun _ l r _ _ => K (.n (some v) l r)) f)
 (fun _ ih f K => LT.rec (motive := fun _ => α) (ih .e fun l => K (.n none l .e)) (fun w l r _ _ => ih l fun l => K (.n w l r)) f)
 (fun _ ih f K => LT.rec (motive := fun _ => α) (ih .e fun r => K (.n none .e r)) (fun w l r _ _ => ih r fun r => K (.n w l r)) f) p
structure LEnv where
 L : Nat
 ps : List Pth
 pp : List Pth
 a : LCode
 b : LCode
def b6r (P : Program) (o : Oper) (ρ : Operand → Value) (H : Heap) : Option (Value × Heap) :=
 if o.op.operands.toList.all (fun x => flat (ρ x)) then
  match iA P (execOp ρ o) with
  | some (.value v) => if flat v then some (v, H) else none
  | _ => none
 else none
def c0M (P : Program) (o : Oper) (ρ : Operand → Value) (H : Heap) : Option (Value × Heap) :=
 let keep (v : Option Value) : Option (Value × Heap) := v.map fun v => (v, H)
 let plain : Option (Value × Heap) := b6r P o ρ H
 match o.op with
 | .move x | .assign x => some (ρ x, H)
 | .pick c a b => match ρ c with | .bool t => some (if t then ρ a else ρ b, H) | _ => none
 | .alloc t => (iS P t).bind fun z => if iT z then pR P H t z else none
 | .box t x => vQ P H t (ρ x)
 | .build t parts =>
   let ps := parts.toList.map fun (i, x) => (i, ρ x)
   if (iS P t).any iT && ps.all (fun x => x.2.cells.toList.all oneCell) then
    (P.built t ps).map fun cs => (.agg cs, H)
   else none
 | .buildSlice t len parts =>
   (gZ P t).bind fun elem => (gW P elem).bind fun size => (iS P elem).bind fun z =>
   let ps := parts.toList.map fun (i, x) => (i, ρ x)
   if len == 0 && ps.isEmpty && size != 0 then some (.slice (some ⟨H.length, 0, some 0⟩) 0 size, qN H elem []) else
   if iT z && ps.all (fun x => x.2.cells.toList.all oneCell) && len * size ≤ 2 ^ 24 && len * size != 0 && z.cells.size == size then
    (Instr.fill (fun i => some (i * size, size)) ((Array.range (len * size)).map (z.cells[· % z.cells.size]!)) ps).map fun cs =>
      (.slice (some ⟨H.length, 0, some cs.toList.length⟩) len size, qN H elem cs.toList)
   else none
 | .makeSlice t n c =>
   (gZ P t).bind fun elem => (gW P elem).bind fun size => (nI P elem).bind fun bytes => (iS P elem).bind fun z =>
   match ρ n, ρ c with
   | .int .i64 a, .int .i64 b =>
     if iT z && decide (a ≤ b) && 0 ≤ a && b * (bytes + 1) ≤ (nT : Int) && size != 0 && z.cells.size == size then
      let cs := if size = 1 then List.replicate b.toNat (z.cells[0]!) else (madeCells z.cells (b.toNat * size)).toList
      some (.slice (some ⟨H.length, 0, some cs.length⟩) a.toNat size, qN H elem cs)
     else none
   | _, _ => none
 | .load t a => keep (lD P H t (ρ a))
 | .store t a x => (pS P H t (ρ a) (ρ x)).map fun H => (undef, H)
 | .nilCheck x => match ρ x with
   | .pointer (some a) => some (.pointer (some a), H)
   | .func (.func f) a b => some (.func (.func f) a b, H)
   | _ => none
 | .fieldAddr s x f => match ρ x with
   | .pointer (some ⟨A, i, some e⟩) => (nG P s f).bind fun fd => (gW P fd.type).bind fun n => if n == 0 then none else some (.pointer (some ⟨A, i + fd.offset, some e⟩), H)
   | _ => none
 | .indexAddr t x ix => match P.underlying t, ρ x, ρ ix with
   | some (.slice elem), .slice (some ⟨A, i, some e⟩) n _, .int _ j => (gW P elem).bind fun size =>
     if 0 ≤ j && j < n then some (.pointer (some ⟨A, i + j.toNat * size, some e⟩), H) else none
   | some (.array n elem), .pointer (some ⟨A, i, some e⟩), .int _ j => (gW P elem).bind fun size =>
     if 0 ≤ j && j < n then some (.pointer (some ⟨A, i + j.toNat * size, some e⟩), H) else none
   | some (.array n elem), .pointer (some ⟨A, i, none⟩), .int _ j => (gW P elem).bind fun size =>
     if 0 ≤ j && j < n then some (.pointer (some ⟨A, i + j.toNat * size, none⟩), H) else none
   | _, _, _ => none
 | .slice t x lo hi none => if flat (ρ x) then plain else match jG P t with
   | some (n, elem) => keep (a4z P H n elem (ρ x) (lo.map ρ) (hi.map ρ))
   | none => keep (vI P t (ρ x) (lo.map ρ) (hi.map ρ))
 | .field t x f => if flat (ρ x) then plain else
   match ρ x with
   | .agg cs => (nG P t f).bind fun fd => match jF P fd.type with
     | some true => (gW P fd.type).map fun n => (.agg (cs.extract fd.offset (fd.offset + n)), H)
     | some false => (cs[fd.offset]?).map fun v => (v, H)
     | none => none
   | _ => none
 | .extract t i => match ρ t with
   | .tuple vs => (vs[i]?).map fun v => (v, H)
   | _ => none
 | .makeFunc fn first captured => match fn with
   | .func f => if (first ++ captured).toList.all (fun x => oN (ρ x)) then some (.func (.func f) (first.map ρ) (captured.map ρ), H) else none
   | _ => none
 | .binOp op t x y _ => match op, ρ x, ρ y with
   | .eql, .slice (some _) _ _, .slice none 0 0 => if ((P.underlying t).map uD) == some true then some (.bool false, H) else none
   | .neq, .slice (some _) _ _, .slice none 0 0 => if ((P.underlying t).map uD) == some true then some (.bool true, H) else none
   | op, .int k a, .int k' b => if k = k' then (match lT op k a b with | some v => some (v, H) | none => plain) else plain
   | .eql, .pointer (some _), .pointer none => if sI P t then some (.bool false, H) else none
   | .neq, .pointer (some _), .pointer none => if sI P t then some (.bool true, H) else none
   | .eql, .pointer (some ⟨A, i, some e⟩), .pointer (some ⟨A', i', some e'⟩) => if sI P t && A == A' && i == i' && e == e' then some (.bool true, H) else none
   | .neq, .pointer (some ⟨A, i, some e⟩), .pointer (some ⟨A', i', some e'⟩) => if sI P t && A == A' && i == i' && e == e' then some (.bool false, H) else none
   | _, _, _ => plain
 | .call c => match c.callee with
   | .builtin .len => if c.args.size == 1 && c.argTypes.size == 1 then
      match (P.underlying (c.argTypes.getD 0 0)), ρ (c.args.getD 0 (.tmp 0)) with
      | some (.slice _), .slice a n k => keep (vA H (.slice a n k))
      | some .string, .string s => keep (vA H (.string s))
      | some (.map _ _), .map r => keep (vA H (.map r))
      | _, _ => none
     else none
   | .builtin .append => if c.args.size == 2 && c.argTypes.size == 2 && ((P.underlying (c.argTypes.getD 1 0)).map oO) == some true then
      mO P H (c.argTypes.getD 0 0) (ρ (c.args.getD 0 (.tmp 0))) (ρ (c.args.getD 1 (.tmp 0)))
     else none
   | .builtin .copy => if c.args.size == 2 && c.argTypes.size == 2 then zU P H (c.argTypes.getD 0 0) (ρ (c.args.getD 0 (.tmp 0))) (ρ (c.args.getD 1 (.tmp 0))) else none
   | .builtin .clear => if c.args.size == 1 && c.argTypes.size == 1 then rR P H (c.argTypes.getD 0 0) (ρ (c.args.getD 0 (.tmp 0))) else none
   | .builtin .cap => plain
   | .builtin .unsafeSliceData => if c.args.size == 1 && c.argTypes.size == 1 then match ρ (c.args.getD 0 (.tmp 0)) with
      | .slice (some a) n _ => if n == 0 then none else some (.pointer (some a), H)
      | _ => none
     else none
   | .builtin .unsafeString => if c.args.size == 2 && c.argTypes.size == 2 then tW P H (c.argTypes.getD 0 0) (ρ (c.args.getD 0 (.tmp 0))) (ρ (c.args.getD 1 (.tmp 0))) else none
   | .builtin .max => plain
   | .builtin .min => plain
   | _ => none
 | .unOp op _ x => match op, ρ x with
   | .not, .bool b => some (.bool (!b), H)
   | _, _ => plain
 | .makeMap t r => oG P H t (r.map ρ)
 | .lookup t x k c => keep (oE P H t (ρ x) (ρ k) c)
 | .mapUpdate t m k v => (a0e P H t (ρ m) (ρ k) (ρ v)).map fun H => (undef, H)
 | .mapEntry t m k => qZ P H t (ρ m) (ρ k)
 | .entryStore _ m b v => (qH H (ρ m) (ρ b) (ρ v)).map fun H => (undef, H)
 | .convert s t x => if flat (ρ x) && !(kO P t) then plain else match ρ x with
   | .slice (some ⟨A, i, some e⟩) n _ => if kO P s && mZ P t then keep ((iU H A i e n).bind fun l => (mL l).map .string) else none
   | .string b => if kO P t && mZ P s && b.size ≤ 2 ^ 40 then (gZ P t).bind fun elem => some (.slice (some ⟨H.length, 0, some b.size⟩) b.size 1, b4I H elem (b.data.toList.map fun c => .int .u8 c.toNat)) else none
   | .pointer (some ⟨A, 0, some e⟩) => if a2G P H s t A e then some (.pointer (some ⟨A, 0, some e⟩), H) else none
   | _ => none
 | .index _ _ _ => plain
 | .makeInterface _ _ => plain
 | _ => none
def mX {α : Type} (b : Bool) (no : α) (x : α) : α := Bool.rec (motive := fun _ => α) no x b
def a5a {α : Type} (cs : List α) : Nat → Bool := List.rec (motive := fun _ => Nat → Bool) (fun e => Nat.beq e 0) (fun _ _ ih e => Nat.rec (motive := fun _ => Bool) true (fun m _ => ih m) e) cs
def a2U {α : Type} (cs : List α) : Nat → Bool := List.rec (motive := fun _ => Nat → Bool) (fun e => Nat.beq e 0) (fun _ _ ih e => Nat.rec (motive := fun _ => Bool) false (fun m _ => ih m) e) cs
def a0g {α : Type} (cs : List α) : Nat → Option α := List.rec (motive := fun _ => Nat → Option α) (fun _ => none) (fun v _ ih e => Nat.rec (motive := fun _ => Option α) (some v) (fun m _ => ih m) e) cs
def a1f {α : Type} (cs : List α) : Nat → (List α → Rs) → Rs := List.rec (motive := fun _ => Nat → (List α → Rs) → Rs) (fun n K => Nat.rec (motive := fun _ => Rs) (K []) (fun _ _ => .no) n) (fun v _ ih n K => Nat.rec (motive := fun _ => Rs) (K []) (fun m _ => ih m fun l => K (v :: l)) n) cs
def b0c {α : Type} (cs : List α) : Nat → List α := List.rec (motive := fun _ => Nat → List α) (fun _ => []) (fun v t ih n => Nat.rec (motive := fun _ => List α) (v :: t) (fun m _ => ih m) n) cs
def kIx (k : IntKind) : Nat := IntKind.rec (motive := fun _ => Nat) 0 1 2 3 4 5 6 7 k
def hMv (x : LArg) (f : Fr) (H : Heap) : Rs := nC (lU f x) fun v => .ok v H
def b5y (c a b : LArg) (f : Fr) (H : Heap) : Rs := match lU f c with
 | .bool t => nC (lU f (Bool.rec (motive := fun _ => LArg) b a t)) fun v => .ok v H
 | _ => .no
def oV (v : Option Value) (H : Heap) : Rs := Option.rec (motive := fun _ => Rs) .no (fun v => .th v H) v
def b8P (g : IntKind → Int → Int → Option Value) (k : IntKind) (a : Int) (H : Heap) (y : Value) : Rs := match y with
 | .int k' b => mX (Nat.beq (kIx k) (kIx k')) .no (oV (g k a b) H)
 | _ => .no
def c1c (g : IntKind → Int → Int → Option Value) (x y : LArg) (f : Fr) (H : Heap) : Rs := match lU f x with
 | .int k a => b8P g k a H (lU f y)
 | _ => .no
def c4h (x : LArg) (f : Fr) (H : Heap) : Rs := match lU f x with
 | .bool b => .ok (.bool (Bool.rec (motive := fun _ => Bool) true false b)) H
 | _ => .no
def b7p (b : Option Blk) (i e : Nat) (H : Heap) : Rs := match b with
 | some (.cells cs _ _ lo _) => mX (Nat.ble lo e) .no (mX (a5a cs e) .no (mX (Nat.ble (Nat.succ i) e) .no (Option.rec (motive := fun _ => Rs) .no (fun v => nC v fun v => .ok v H) (a0g cs i))))
 | _ => .no
def b9p (b : Option Blk) (i : Nat) (H : Heap) : Rs := match b with
 | some (.cells cs _ false lo 1) => mX (a5a cs lo) .no (Option.rec (motive := fun _ => Rs) .no (fun v => nC v fun v => .ok v H) (a0g cs i))
 | _ => .no
def b1w (x : LArg) (f : Fr) (H : Heap) : Rs := match lU f x with
 | .pointer (some ⟨A, i, some e⟩) => b7p (iI H A) i e H
 | .pointer (some ⟨A, i, none⟩) => b9p (iI H A) i H
 | _ => .no
def b8a (b : Option Blk) (n i e : Nat) (H : Heap) : Rs := match b with
 | some (.cells cs _ _ lo _) => mX (Nat.ble lo e) .no (mX (a5a cs e) .no (mX (Nat.ble (Nat.add i n) e) .no (a1f (b0c cs i) n fun l => .ok (.agg ⟨l⟩) H)))
 | _ => .no
def b0y (n : Nat) (x : LArg) (f : Fr) (H : Heap) : Rs := match lU f x with
 | .pointer (some ⟨A, i, some e⟩) => b8a (iI H A) n i e H
 | _ => .no
def stB (b : Option Blk) (n A i e : Nat) (vs : List Value) (H : Heap) : Rs := match b with
 | some (.cells cs ty true lo ver) => mX (a2U vs n) .no (mX (vs.all oneCell) .no (mX (a2U cs e) .no (mX (Nat.ble (Nat.add i n) e) .no (mX (Nat.ble lo e) .no
    (.th undef (hset H A (.cells (iQ cs i vs) ty true e ver)))))))
 | _ => .no
def hSt (n : Nat) (x y : LArg) (f : Fr) (H : Heap) : Rs := match lU f x with
 | .pointer (some ⟨A, i, some e⟩) => stB (iI H A) n A i e (lU f y).cells.toList H
 | _ => .no
def hFa (off : Nat) (x : LArg) (f : Fr) (H : Heap) : Rs := match lU f x with
 | .pointer (some ⟨A, i, some e⟩) => jR (Nat.add i off) fun i => .ok (.pointer (some ⟨A, i, some e⟩)) H
 | _ => .no
def ixP (A i e size n : Nat) (H : Heap) (j : Value) : Rs := match j with
 | .int _ (.ofNat j) => mX (Nat.blt j n) .no (jR (Nat.add i (Nat.mul j size)) fun i => .ok (.pointer (some ⟨A, i, some e⟩)) H)
 | _ => .no
def b9u (size : Nat) (x i : LArg) (f : Fr) (H : Heap) : Rs := match lU f x with
 | .slice (some ⟨A, a, some e⟩) n _ => ixP A a e size n H (lU f i)
 | _ => .no
def ixG (A i size n : Nat) (H : Heap) (j : Value) : Rs := match j with
 | .int _ (.ofNat j) => mX (Nat.blt j n) .no (jR (Nat.add i (Nat.mul j size)) fun i => .ok (.pointer (some ⟨A, i, none⟩)) H)
 | _ => .no
def c0L (n size : Nat) (x i : LArg) (f : Fr) (H : Heap) : Rs := match lU f x with
 | .pointer (some ⟨A, a, some e⟩) => ixP A a e size n H (lU f i)
 | .pointer (some ⟨A, a, none⟩) => ixG A a size n H (lU f i)
 | _ => .no
def okV (v : Option Value) (H : Heap) : Rs := Option.rec (motive := fun _ => Rs) .no (fun v => nC v fun v => .ok v H) v
def c0c (i : Nat) (x : LArg) (f : Fr) (H : Heap) : Rs := match lU f x with
 | .tuple ⟨vs⟩ => okV (a0g vs i) H
 | _ => .no
def hF1 (off : Nat) (x : LArg) (f : Fr) (H : Heap) : Rs := match lU f x with
 | .agg ⟨cs⟩ => okV (a0g cs off) H
 | _ => .no
def hFn (off n : Nat) (x : LArg) (f : Fr) (H : Heap) : Rs := match lU f x with
 | .agg ⟨cs⟩ => a1f (b0c cs off) n fun l => .ok (.agg ⟨l⟩) H
 | _ => .no
def c0W (x : LArg) (f : Fr) (H : Heap) : Rs := match lU f x with
 | .slice _ n _ => .th (goInt n) H
 | _ => .no
def b3c (x : LArg) (f : Fr) (H : Heap) : Rs := match lU f x with
 | .string s => .th (goInt s.size) H
 | _ => .no
def c2a (b : Option Blk) (elem size bytes A i e k : Nat) (n : Nat) (l : List Value) (P : Program) (H : Heap) : Rs := match b with
 | some (.cells cs ty true lo ver) => mX (Bool.rec (motive := fun _ => Bool) (gW P ty == some size) true (Nat.beq ty elem)) .no (mX (a2U cs e) .no (mX (Nat.ble lo e) .no
    (mX (Nat.beq (Nat.add i (Nat.mul k size)) e)
      (mX (Nat.beq n 0) (mX (Nat.ble (Nat.add i (Nat.mul (Nat.add k n) size)) e) .no (.th (.slice (some ⟨A, i, some e⟩) (k + n) size) (hset H A (.cells (iQ cs (i + k * size) l) ty true e ver)))) .no)
      (mX (Nat.ble (Nat.mul (Nat.add k n) (Nat.succ bytes)) nT) .no (.th (.slice (some ⟨A, i, some (e + l.length)⟩) (k + n) size) (hset H A (.cells (a4p cs l) ty true lo (Bool.rec (motive := fun _ => Nat) 2 ver (Nat.beq ty elem)))))))))
 | _ => .no
def c1Z (P : Program) (elem size bytes : Nat) (s : Value) (H : Heap) (n : Nat) (l : List Value) : Rs := match s with
 | .slice none k c => mX (Nat.beq k 0) .no (mX (Nat.beq c 0) .no (mX (Nat.ble (Nat.mul n (Nat.succ bytes)) nT) .no (mX (Nat.beq n 0) (.th (.slice (some ⟨H.length, 0, some l.length⟩) n size) (qN H elem l)) (.ok (.slice none 0 0) H))))
 | .slice (some ⟨A, i, some e⟩) k _ => c2a (iI H A) elem size bytes A i e k n l P H
 | _ => .no
def b9F (P : Program) (elem size bytes : Nat) (x y : LArg) (f : Fr) (H : Heap) : Rs := match zE H size (lU f y) with
 | some (n, l) => c1Z P elem size bytes (lU f x) H n l
 | none => .no
def b9h (t : TypeId) (cs : List Value) (_ : Fr) (H : Heap) : Rs := .th (.pointer (some ⟨H.length, 0, some cs.length⟩)) (qN H t cs)
def evF (f : Fr) : Operand → Value
 | .tmp t => mY (kE t) f
 | .const v => v
 | .global g => .pointer (some ⟨g, 0, none⟩)
 | .func k => .func (.func k) #[] #[]
def c4V (P : Program) (o : Oper) (f : Fr) (H : Heap) : Rs := match c0M P o (evF f) H with
 | some (v, H1) => .th v H1
 | none => .no
def a3s {α : Type} (f : Fr) (l : List LArg) : (List Value → α) → α := List.rec (motive := fun _ => (List Value → α) → α) (fun K => K []) (fun x _ ih K => nC (lU f x) fun v => ih fun l => K (v :: l)) l
structure Calls' where
 fn : Pth → FuncId → List Value → Heap → Rs
 rd : Nat → List Value → Heap → Rs
def b9K (C : Calls') (k : FuncId) (p : Pth) (args : List LArg) (f : Fr) (H : Heap) : Rs := a3s f args fun l => C.fn p k l H
def a7c (C : Calls') (l : List Value) (H : Heap) (g : Value) : Rs := match g with
 | .func (.func k) ⟨a⟩ ⟨b⟩ => jR k fun k => lB (kE k) fun p => C.fn p k (a4p a (a4p l b)) H
 | .func (.yield L) _ _ => C.rd L l H
 | _ => .no
def b9o (C : Calls') (g : LArg) (args : List LArg) (f : Fr) (H : Heap) : Rs := a3s f args fun l => a7c C l H (lU f g)
def c4G (_ : Fr) (_ : Heap) : Rs := .no
def opF (P : Program) (C : Calls') (o : LOp) : Fr → Heap → Rs :=
 LOp.rec (motive := fun _ => Fr → Heap → Rs) c4G hMv b5y c1c c4h b1w b0y hSt hFa b9u c0L c0c hF1 hFn c0W b3c (b9F P) b9h (b9K C) (b9o C) (c4V P) o
inductive Rf where
 | no
 | ok (f : Fr) (H : Heap)
def sS {α : Type} (d : Option Pth) (v : Value) (f : Fr) (K : Fr → α) : α := Option.rec (motive := fun _ => α) (K f) (fun p => oQ v p f K) d
def a9N {α : Type} (no : α) (d : Option Pth) (f : Fr) (K : Fr → Heap → α) (r : Rs) : α :=
 Rs.rec (motive := fun _ => α) no (fun v H => sS d v f fun f => K f H) (fun v H => wQ v fun v => mS H fun H => sS d v f fun f => K f H) r
def isB (v : Value) (w : Bool) : Bool := match v with
 | .bool b => Bool.rec (motive := fun _ => Bool) (Bool.rec (motive := fun _ => Bool) true false w) w b
 | _ => false
def xO (P : Program) (C : Calls') (ops : LOps) : Fr → Heap → Rf := LOps.rec (motive := fun _ => Fr → Heap → Rf)
 (fun f H => .ok f H)
 (fun d o _ ih f H => a9N .no d f ih (opF P C o f H))
 (fun p w d o _ ih f H => mX (isB (mY p f) w) (sS d undef f fun f => ih f H) (a9N .no d f ih (opF P C o f H))) ops
inductive Rt where
 | no
 | ok (tr : List (Fr × Heap × Value)) (f : Fr) (H : Heap)
def a9W (tr : List (Fr × Heap × Value)) (f0 : Fr) (H0 : Heap) (d : Option Pth) (K : List (Fr × Heap × Value) → Fr → Heap → Rt) (r : Rs) : Rt :=
 Rs.rec (motive := fun _ => Rt) .no (fun v H => sS d v f0 fun f => K ((f0, H0, v) :: tr) f H) (fun v H => wQ v fun v => mS H fun H => sS d v f0 fun f => K ((f0, H0, v) :: tr) f H) r
def pZ (P : Program) (C : Calls') (ops : LOps) : List (Fr × Heap × Value) → Fr → Heap → Rt := LOps.rec (motive := fun _ => List (Fr × Heap × Value) → Fr → Heap → Rt)
 (fun tr f H => .ok tr f H)
 (fun d o _ ih tr f H => a9W tr f H d ih (opF P C o f H))
 (fun p w d o _ ih tr f H => mX (isB (mY p f) w) (sS d undef f fun f1 => ih ((f, H, undef) :: tr) f1 H) (a9W tr f H d ih (opF P C o f H))) ops
def b6b (v : Value) (r : Rs) : Bool := Rs.rec (motive := fun _ => Bool) false (fun w _ => veq w v) (fun w _ => veq w v) r
def b4f (f : Fr) (g : Option (Pth × Bool)) : Bool := match g with
 | none => true
 | some (p, w) => isB (mY p f) w
def b3Z (P : Program) (C : Calls') (tr : List (Fr × Heap × Value)) (H1 : Heap) (x : Nat × Option Nat × Option (Pth × Bool) × LOp) : Bool :=
 match a0g tr x.1 with
 | some (f, _, v) => mX (b4f f x.2.2.1) true (match x.2.1 with
   | none => b6b v (opF P C x.2.2.2 f H1)
   | some m => match a0g tr m with
     | some (_, H, _) => b6b v (opF P C x.2.2.2 f H)
     | none => false)
 | none => false
def b3Q {α : Type} (p : α → Bool) (l : List α) : Bool := List.rec (motive := fun _ => Bool) true (fun x _ ih => mX (p x) false ih) l
inductive Rc where
 | no
 | ok (e : Ex) (f : Fr) (H : Heap)
def c2G (r : Rf) : Rc := Rf.rec (motive := fun _ => Rc) .no (fun f H => .ok .normal f H) r
def b8I (P : Program) (C : Calls') (tab : List (Nat × Option Nat × Option (Pth × Bool) × LOp)) (r : Rt) : Rc := Rt.rec (motive := fun _ => Rc) .no (fun tr f H => mX (b3Q (b3Z P C tr H) tab) .no (.ok .normal f H)) r
def nZ {α : Type} (no : α) (l : List Value) : List Pth → Fr → (Fr → α) → α := List.rec (motive := fun _ => List Pth → Fr → (Fr → α) → α) (fun _ f K => K f)
 (fun v _ ih ps f K => List.rec (motive := fun _ => α) no (fun p ps _ => oQ v p f fun f => ih ps f K) ps) l
def a2L (H : Heap) (f : Fr) (r : LRes) : Rs := LRes.rec (motive := fun _ => Rs) (fun p => nC (mY p f) fun v => .ok v H) (fun p => b1w (.t p) f H) (fun n p => b0y n (.t p) f H) r
def b4H (H : Heap) (f : Fr) (l : List LRes) : (List Value → Rs) → Rs := List.rec (motive := fun _ => (List Value → Rs) → Rs) (fun K => K []) (fun r _ ih K => Rs.rec (motive := fun _ => Rs) .no (fun v _ => ih fun l => K (v :: l)) (fun _ _ => .no) (a2L H f r)) l
def noT (v : Value) : Bool := match v with | .tuple _ => false | _ => true
def a6C (l : List LRes) (f : Fr) (H : Heap) : Rs := match l with
 | [r] => a2L H f r
 | l => b4H H f l fun vs => mX (b3Q noT vs) .no (.ok (.tuple ⟨vs⟩) H)
def c1e (l : List LRes) (r : Rc) : Rs := match r with
 | .ok .normal f H => a6C l f H
 | .ok .ret f H => a6C l f H
 | _ => .no
abbrev pC := List LEnv → LCode → Fr → Heap → Rc
def b9Y (P : Program) (k : FuncId) (args : List Value) (H : Heap) : Rs := match oZ P k args H with
 | some (v, H1) => .th v H1
 | none => .no
def lY (T : LT) (ih : pC) (E : List LEnv) (p : Pth) (args : List Value) (H : Heap) : Rs := match a0x p T with
 | some g => nZ .no args g.ps .e fun f => c1e g.res (ih E g.body f H)
 | none => .no
def b3o (P : Program) (T : LT) (ih : pC) (E : List LEnv) (p : Pth) (k : FuncId) (args : List Value) (H : Heap) : Rs := match a0x p T with
 | some g => nZ .no args g.ps .e fun f => c1e g.res (ih E g.body f H)
 | none => b9Y P k args H
def b2P (E : List LEnv) (L : Nat) : Option LEnv := List.rec (motive := fun _ => Option LEnv) none (fun e _ ih => mX (Nat.beq e.L L) ih (some e)) E
def b8Q (e : Ex) : Option Code := match e with | .normal => none | .ret => some .ret | .exit id => some (.exit id)
def a1S (L : Nat) (e : Ex) (H : Heap) : Rs := match iI H L with
 | some (.loop ⟨_, _, fn, tmps, ps, a, b, d⟩) => match b8Q e with
   | none => .th (.bool true) (hset H L (.loop ⟨.ready, none, fn, tmps, ps, a, b, d⟩))
   | some c => .th (.bool false) (hset H L (.loop ⟨.done, some c, fn, tmps, ps, a, b, d⟩))
 | _ => .no
def b0t (L : Nat) (r : Rc) : Rs := match r with
 | .ok e _ H => a1S L e H
 | .no => .no
def yT (ih : pC) (E : List LEnv) (en : LEnv) (f : Fr) (H : Heap) : Rs := match iI H en.L with
 | some (.loop ⟨.ready, p, fn, tmps, ps, a, b, d⟩) => mS (hset H en.L (.loop ⟨.busy, p, fn, tmps, ps, a, b, d⟩)) fun H => b0t en.L (ih E en.b f H)
 | _ => .no
def rT (ih : pC) (E : List LEnv) (en : LEnv) (r : Rc) : Rs := match r with
 | .ok .normal f H => yT ih E en f H
 | _ => .no
def a8K (ih : pC) (E : List LEnv) (L : Nat) (args : List Value) (H : Heap) : Rs := match b2P E L with
 | some en => match iI H L with
   | some (.loop ⟨.ready, _, _, ⟨tmps⟩, ps, _, _, _⟩) => mX (a2U args ps.size) .no (nZ .no tmps en.ps .e fun f => nZ .no args en.pp f fun f => rT ih E en (ih E en.a f H))
   | _ => .no
 | none => .no
def zD (P : Program) (T : LT) (ih : pC) (E : List LEnv) : Calls' := ⟨b3o P T ih E, a8K ih E⟩
def c4P (_ : Fr) (_ : Heap) : Rc := .no
def c3v (f : Fr) (H : Heap) : Rc := .ok .normal f H
def c4l (P : Program) (T : LT) (ih : pC) (E : List LEnv) (ops : LOps) (f : Fr) (H : Heap) : Rc := c2G (xO P (zD P T ih E) ops f H)
def c3S (P : Program) (T : LT) (ih : pC) (E : List LEnv) (ops : LOps) (tab : List (Nat × Option Nat × Option (Pth × Bool) × LOp)) (f : Fr) (H : Heap) : Rc := b8I P (zD P T ih E) tab (pZ P (zD P T ih E) ops [] f H)
def b7U (ih : pC) (E : List LEnv) (b : LCode) (r : Rc) : Rc := match r with
 | .ok .normal f H => ih E b f H
 | r => r
def c4g (ih : pC) (E : List LEnv) (a b : LCode) (_ _ : Fr → Heap → Rc) (f : Fr) (H : Heap) : Rc := b7U ih E b (ih E a f H)
def b5h (ih : pC) (E : List LEnv) (c : LArg) (x y : LCode) (_ _ : Fr → Heap → Rc) (f : Fr) (H : Heap) : Rc := match lU f c with
 | .bool t => ih E (Bool.rec (motive := fun _ => LCode) y x t) f H
 | _ => .no
def c3j (id : Nat) (r : Rc) : Rc := match r with
 | .ok (.exit i) f H => .ok (Bool.rec (motive := fun _ => Ex) (.exit i) .normal (Nat.beq i id)) f H
 | r => r
def c0x (ih : pC) (E : List LEnv) (id : Nat) (b : LCode) (_ : Fr → Heap → Rc) (f : Fr) (H : Heap) : Rc := c3j id (ih E b f H)
def c1F (ih : pC) (E : List LEnv) (b : LCode) (_ : Fr → Heap → Rc) (f : Fr) (H : Heap) : Rc := b7U ih E (.loop b) (ih E b f H)
def c3a (id : Nat) (f : Fr) (H : Heap) : Rc := .ok (.exit id) f H
def c3J (f : Fr) (H : Heap) : Rc := .ok .ret f H
def frL {α : Type} (f : Fr) (ps : List Pth) : (List Value → α) → α := List.rec (motive := fun _ => (List Value → α) → α) (fun K => K []) (fun p _ ih K => nC (mY p f) fun v => ih fun l => K (v :: l)) ps
def tD (L : Nat) (f : Fr) (H : Heap) : Rc := match iI H L with
 | some (.loop ⟨.ready, none, fn, tmps, ps, a, b, d⟩) => mS (hset H L (.loop ⟨.exhausted, none, fn, tmps, ps, a, b, d⟩)) fun H => .ok .normal f H
 | some (.loop ⟨.done, none, fn, tmps, ps, a, b, d⟩) => mS (hset H L (.loop ⟨.exhausted, none, fn, tmps, ps, a, b, d⟩)) fun H => .ok .normal f H
 | some (.loop ⟨.done, some .ret, fn, tmps, ps, a, b, d⟩) => mS (hset H L (.loop ⟨.exhausted, some .ret, fn, tmps, ps, a, b, d⟩)) fun H => .ok .ret f H
 | some (.loop ⟨.done, some (.exit id), fn, tmps, ps, a, b, d⟩) => mS (hset H L (.loop ⟨.exhausted, some (.exit id), fn, tmps, ps, a, b, d⟩)) fun H => .ok (.exit id) f H
 | _ => .no
def b1c (L : Nat) (f : Fr) (r : Rs) : Rc := match r with
 | .no => .no
 | .ok _ H => tD L f H
 | .th _ H => mS H fun H => tD L f H
def b0h (T : LT) (ih : pC) (E : List LEnv) (f : Fr) (L : Nat) (k : FuncId) (args : List Value) (H : Heap) : Rc := lB (kE k) fun p => b1c L f (lY T ih E p args H)
def a7D (T : LT) (ih : pC) (E : List LEnv) (g : LArg) (ps pp : List Pth) (params : Array Tmp) (assign body : Code) (a b : LCode) (_ _ : Fr → Heap → Rc) (f : Fr) (H : Heap) : Rc := match lU f g with
 | .func (.func k) ⟨x⟩ ⟨y⟩ => jR H.length fun L => frL f ps fun l => mS (H.cons (.loop ⟨.ready, none, 0, ⟨l⟩, params, assign, body, 0⟩)) fun H1 =>
    jR k fun k => b0h T ih (⟨L, ps, pp, a, b⟩ :: E) f L k (a4p x (.func (.yield L) #[] #[] :: y)) H1
 | _ => .no
def a9s (P : Program) (T : LT) (ih : pC) (E : List LEnv) (c : LCode) : Fr → Heap → Rc :=
 LCode.rec (motive := fun _ => Fr → Heap → Rc) c4P c3v (c4l P T ih E) (c3S P T ih E) (c4g ih E) (b5h ih E) (c0x ih E) (c1F ih E) c3a c3J (a7D T ih E) c
def zI (P : Program) (T : LT) (n : Nat) : pC := Nat.rec (motive := fun _ => pC) (fun _ _ _ _ => .no) (fun _ ih => a9s P T ih) n
section
variable {α : Type}
def lC (x : Operand) (K : LArg → α) : α := match x with
 | .tmp t => lB (kE t) fun p => K (.t p)
 | .const v => K (.c v)
 | .global g => K (.c (.pointer (some ⟨g, 0, none⟩)))
 | .func k => K (.c (.func (.func k) #[] #[]))
def a4x (l : List Operand) : (List LArg → α) → α := List.rec (motive := fun _ => (List LArg → α) → α) (fun K => K []) (fun x _ ih K => lC x fun x => ih fun l => K (x :: l)) l
def a2n (o : Option Nat) (d : α) (K : Nat → α) : α := match o with
 | some n => jR n K
 | none => d
def c4k (k : IntKind) (a b : Int) : Option Value := some (.int k (uT k (b6C a b)))
def c4H (k : IntKind) (a b : Int) : Option Value := some (.int k (uT k (b7Z a b)))
def c1L (a b : Int) : Int := match a, b with
 | .ofNat a, .ofNat b => .ofNat (Nat.mul a b)
 | a, b => a * b
def c2e (k : IntKind) (a b : Int) : Option Value := some (.int k (uT k (c1L a b)))
def c3g (a b : Int) : Int := match a, b with
 | .ofNat a, .ofNat b => .ofNat (Nat.div a b)
 | a, b => a.tdiv b
def c2N (a b : Int) : Int := match a, b with
 | .ofNat a, .ofNat b => .ofNat (Nat.mod a b)
 | a, b => a.tmod b
def b7g (k : IntKind) (a b : Int) : Option Value := match eqI b 0 with | true => none | false => some (.int k (uT k (c3g a b)))
def b6Y (k : IntKind) (a b : Int) : Option Value := match eqI b 0 with | true => none | false => some (.int k (c2N a b))
def c4N (_ : IntKind) (a b : Int) : Option Value := some (.bool (eqI a b))
def c4L (_ : IntKind) (a b : Int) : Option Value := some (.bool (!eqI a b))
def c4A (_ : IntKind) (a b : Int) : Option Value := some (.bool (ltI a b))
def c4y (_ : IntKind) (a b : Int) : Option Value := some (.bool (!ltI b a))
def c4a (_ : IntKind) (a b : Int) : Option Value := some (.bool (ltI b a))
def c4M (_ : IntKind) (a b : Int) : Option Value := some (.bool (!ltI a b))
def b6p (op : BinOp) : Option (IntKind → Int → Int → Option Value) := match op with
 | .add => some c4k
 | .sub => some c4H
 | .mul => some c2e
 | .quo => some b7g
 | .rem => some b6Y
 | .eql => some c4N
 | .neq => some c4L
 | .lss => some c4A
 | .leq => some c4y
 | .gtr => some c4a
 | .geq => some c4M
 | _ => none
def b9m (d : Option TypeDesc) : Bool := match d with | some (.int _) => true | _ => false
def c5j (P : Program) (s : TypeId) (f : Nat) (d : α) (K1 : Nat → α) (Kn : Nat → Nat → α) : α := match nG P s f with
 | some fd => jR fd.offset fun off => match jF P fd.type with
   | some true => a2n (gW P fd.type) d fun n => Kn off n
   | some false => K1 off
   | none => d
 | none => d
def b4q (P : Program) (o : Oper) (c : Call) (K : LOp → α) : α := match c.callee with
 | .value (.func k) => lB (kE k) fun p => a4x c.args.toList fun l => K (.callF k p l)
 | .value g => lC g fun g => a4x c.args.toList fun l => K (.callV g l)
 | .builtin .len => mX (c.args.size == 1 && c.argTypes.size == 1) (K (.gen o)) (match P.underlying (c.argTypes.getD 0 0) with
    | some (.slice _) => lC (c.args.getD 0 (.tmp 0)) fun x => K (.len x)
    | some .string => lC (c.args.getD 0 (.tmp 0)) fun x => K (.slen x)
    | _ => K (.gen o))
 | .builtin .append => mX (c.args.size == 2 && c.argTypes.size == 2 && ((P.underlying (c.argTypes.getD 1 0)).map oO) == some true) (K (.gen o))
    (match gZ P (c.argTypes.getD 0 0) with
     | some elem => a2n (gW P elem) (K (.gen o)) fun size => a2n (nI P elem) (K (.gen o)) fun bytes => match iS P elem with
       | some z => mX (z.cells.size == size && size != 0) (K (.gen o)) (jR elem fun elem => lC (c.args.getD 0 (.tmp 0)) fun x => lC (c.args.getD 1 (.tmp 0)) fun y => K (.app elem size bytes x y))
       | none => K (.gen o)
     | none => K (.gen o))
 | _ => K (.gen o)
def c1I (P : Program) (o : Oper) (K : LOp → α) : α := match o.op with
 | .move x => lC x fun x => K (.mv x)
 | .assign x => lC x fun x => K (.mv x)
 | .pick c a b => lC c fun c => lC a fun a => lC b fun b => K (.pick c a b)
 | .binOp op t x y _ => mX (b9m (P.underlying t)) (K (.gen o)) (match b6p op with
   | some g => lC x fun x => lC y fun y => K (.bin g x y)
   | none => K (.gen o))
 | .load t x => match jF P t with
   | some true => a2n (gW P t) (K (.gen o)) fun n => lC x fun x => K (.ldn n x)
   | some false => lC x fun x => K (.ld1 x)
   | none => K (.gen o)
 | .store t x y => a2n (gW P t) (K (.gen o)) fun n => lC x fun x => lC y fun y => K (.st n x y)
 | .fieldAddr s x f => match nG P s f with
   | some fd => match gW P fd.type with
     | some 0 => K (.gen o)
     | some _ => jR fd.offset fun off => lC x fun x => K (.fa off x)
     | none => K (.gen o)
   | none => K (.gen o)
 | .indexAddr t x i => match P.underlying t with
   | some (.slice elem) => a2n (gW P elem) (K (.gen o)) fun size => lC x fun x => lC i fun i => K (.ixs size x i)
   | some (.array n elem) => a2n (gW P elem) (K (.gen o)) fun size => lC x fun x => lC i fun i => K (.ixa n size x i)
   | _ => K (.gen o)
 | .extract t i => jR i fun i => lC t fun t => K (.ext i t)
 | .call c => b4q P o c K
 | _ => K (.gen o)
def vX (P : Program) (o : Oper) (K : LOp → α) : α := mX (o.op.operands.toList.all iE) (K .bad) (c1I P o K)
def a6A (k : Nat) (d : Option Tmp) (no : α) (K : Option Pth → α) : α := match d with
 | none => K none
 | some t => mX (Nat.blt t k) no (lB (kE t) fun p => K (some p))
def tH (P : Program) (k : Nat) (ops : Array Oper) (l : List Oper) : (LOps → α) → α → α := List.rec (motive := fun _ => (LOps → α) → α → α) (fun K _ => K .nil)
 (fun o _ ih K no => a6A k o.dst no fun d => vX P o fun o' => match o.guard with
   | none => ih (fun r => K (.cons d o' r)) no
   | some (j, w) => match (ops[j]?).bind (·.dst) with
     | some t => mX (Nat.blt t k) no (lB (kE t) fun p => zF w fun w => ih (fun r => K (.gcons p w d o' r)) no)
     | none => no) l
def loG (k : Nat) (ops : Array Oper) (g : Option (Nat × Bool)) (no : α) (K : Option (Pth × Bool) → α) : α := match g with
 | none => K none
 | some (j, w) => match (ops[j]?).bind (·.dst) with
   | some t => mX (Nat.blt t k) no (lB (kE t) fun p => zF w fun w => K (some (p, w)))
   | none => no
def sG (P : Program) (k : Nat) (ops : Array Oper) (N : Nat) (tab : List (Nat × Nat)) : (List (Nat × Option Nat × Option (Pth × Bool) × LOp) → α) → α → α := List.rec (motive := fun _ => (List (Nat × Option Nat × Option (Pth × Bool) × LOp) → α) → α → α) (fun K _ => K [])
 (fun x _ ih K no => match ops[x.1]? with
   | some o => loG k ops o.guard no fun g => vX P o fun o' => jR (N - 1 - x.1) fun i => mX (Nat.blt x.2 N) (ih (fun l => K ((i, none, g, o') :: l)) no) (jR (N - 1 - x.2) fun m => ih (fun l => K ((i, some m, g, o') :: l)) no)
   | none => no) tab
def b4X (k : Nat) : (List Pth → α) → α := Nat.rec (motive := fun _ => (List Pth → α) → α) (fun K => K []) (fun n ih K => lB (kE n) fun p => ih fun l => K (p :: l)) k
def b9c {β : Type} (l : List β) : List β → (List β → α) → α := List.rec (motive := fun _ => List β → (List β → α) → α) (fun a K => K a) (fun x _ ih a K => ih (x :: a) K) l
def b0H (k : Nat) (K : List Pth → α) : α := b4X k fun l => b9c l [] K
def vG (k : Nat) (l : List Tmp) : (List Pth → α) → α → α := List.rec (motive := fun _ => (List Pth → α) → α → α) (fun K _ => K []) (fun t _ ih K no => mX (Nat.blt t k) no (lB (kE t) fun p => ih (fun l => K (p :: l)) no)) l
def mH (P : Program) (k : Nat) (c : Code) : (LCode → α) → α := Code.rec (motive := fun _ => (LCode → α) → α)
 (fun K => K .skip)
 (fun _ ops d K => Bool.rec (motive := fun _ => α) (tH P k ops ops.toList (fun l => K (.reg l)) (K .bad))
   (match mB P ops with
     | some [] => tH P k ops ops.toList (fun l => K (.reg l)) (K .bad)
     | some tab => tH P k ops ops.toList (fun l => sG P k ops ops.size tab (fun t => K (.drw l t)) (K .bad)) (K .bad)
     | none => K .bad) d)
 (fun _ _ iha ihb K => iha fun a => ihb fun b => K (.seq a b))
 (fun c _ _ ihx ihy K => mX (iE c) (K .bad) (lC c fun c => ihx fun x => ihy fun y => K (.cond c x y)))
 (fun id _ ih K => jR id fun id => ih fun b => K (.block id b))
 (fun _ ih K => ih fun b => K (.loop b))
 (fun g ps assign body iha ihb K => mX (iE g) (K .bad) (lC g fun g' => b0H k fun pp => vG k ps.toList (fun q => iha fun a => ihb fun b => K (.range g' pp q ps assign body a b)) (K .bad)))
 (fun id K => jR id fun id => K (.exit id))
 (fun _ _ K => K .bad)
 (fun _ K => K .skip)
 (fun _ K => K .bad)
 (fun K => K .ret)
 (fun _ K => K .bad) c
def zT (P : Program) (l : List ResultVar) : (List LRes → α) → α → α := List.rec (motive := fun _ => (List LRes → α) → α → α) (fun K _ => K [])
 (fun r _ ih K no => match r with
   | .tmp t => lB (kE t) fun p => ih (fun l => K (.t p :: l)) no
   | .cell a t => match jF P t with
     | some true => a2n (gW P t) no fun n => lB (kE a) fun p => ih (fun l => K (.cn n p :: l)) no
     | some false => lB (kE a) fun p => ih (fun l => K (.c1 p :: l)) no
     | none => no) l
def a0B (P : Program) (f : FuncId) (no : α) (K : LFunc → α) : α := match P.funcs[f]? with
 | some fn => match fn.body with
   | some c => mX (fn.name == "runtime.NumGoroutine") (zT P fn.results.toList (fun res => b0H fn.ntmps fun ps => mH P fn.ntmps c fun b => K ⟨ps, b, res⟩) no) no
   | none => no
 | none => no
def sJ (P : Program) (fs : List FuncId) : LT → (LT → α) → α := List.rec (motive := fun _ => LT → (LT → α) → α) (fun T K => K T)
 (fun f _ ih T K => a0B P f (ih T K) fun g => lB (kE f) fun p => qQ g p T fun T => ih T K) fs
end
end
end Go.Ds
namespace Go.Ds
section
variable {α : Type}
theorem uA (f k : Nat) : a4D (f + 1) (k + 1) = if k % 2 = 0 then .l (a4D f (k / 2)) else .r (a4D f (k / 2)) := by
 show Bool.rec (motive := fun _ => Pth) (.r (a4D f (k / 2))) (.l (a4D f (k / 2))) (Nat.beq (k % 2) 0) = _
 by_cases h : k % 2 = 0
 ·rw [if_pos h, h]; rfl
 ·rw [if_neg h]
  have : Nat.beq (k % 2) 0 = false := fI.2 fun e => h (dI e)
  rw [this]
theorem a3a (f : Nat) : a4D f 0 = .z := by cases f <;> rfl
theorem a1l : ∀ (f g a b : Nat), a ≤ f → b ≤ g → a4D f a = a4D g b → a = b
 | _, _, 0, 0, _, _, _ => rfl
 | 0, _, a + 1, _, h, _, _ => by omega
 | _, 0, _, b + 1, _, h, _ => by omega
 | f, g + 1, 0, b + 1, _, _, h => by
   rw [a3a, uA] at h
   split at h <;> cases h
 | f + 1, g, a + 1, 0, _, _, h => by
   rw [a3a, uA] at h
   split at h <;> cases h
 | f + 1, g + 1, a + 1, b + 1, ha, hb, h => by
   rw [uA, uA] at h
   by_cases h1 : a % 2 = 0
   ·rw [if_pos h1] at h
    by_cases h2 : b % 2 = 0
    ·rw [if_pos h2] at h
     injection h with h
     have := a1l f g (a / 2) (b / 2) (by omega) (by omega) h
     omega
    ·rw [if_neg h2] at h; cases h
   ·rw [if_neg h1] at h
    by_cases h2 : b % 2 = 0
    ·rw [if_pos h2] at h; cases h
    ·rw [if_neg h2] at h
     injection h with h
     have := a1l f g (a / 2) (b / 2) (by omega) (by omega) h
     omega
theorem a9x {a b : Nat} (h : kE a = kE b) : a = b := a1l _ _ _ _ (da _) (da _) h
theorem kW (p : Pth) (K : Pth → α) : lB p K = K p := by
 induction p generalizing K with
 | z => rfl
 | l p ih => exact ih _
 | r p ih => exact ih _
theorem mA (v : Value) (K : Value → α) : nC v K = K v := by cases v <;> rfl
theorem rL (v : Value) (p : Pth) (f : Fr) (K : Fr → α) : oQ v p f K = K (oQ v p f fun f => f) := by
 induction p generalizing f α with
 | z => cases f <;> rfl
 | l p ih =>
   cases f with
   | e =>
     show oQ v p .e (fun l => K (.n undef l .e)) = K (oQ v p .e fun l => .n undef l .e)
     rw [ih, ih (K := fun l => Fr.n undef l .e)]
   | n w l r =>
     show oQ v p l (fun l => K (.n w l r)) = K (oQ v p l fun l => .n w l r)
     rw [ih, ih (K := fun l => Fr.n w l r)]
 | r p ih =>
   cases f with
   | e =>
     show oQ v p .e (fun l => K (.n undef .e l)) = K (oQ v p .e fun l => .n undef .e l)
     rw [ih, ih (K := fun l => Fr.n undef .e l)]
   | n w l r =>
     show oQ v p r (fun r => K (.n w l r)) = K (oQ v p r fun r => .n w l r)
     rw [ih, ih (K := fun r => Fr.n w l r)]
theorem sU (p : Pth) : mY p .e = undef := by
 cases p <;> rfl
theorem b1i (v : Value) (p q : Pth) (f : Fr) : (q = p → mY q (oQ v p f fun f => f) = v) ∧ (q ≠ p → mY q (oQ v p f fun f => f) = mY q f) := by
 induction p generalizing f q with
 | z =>
   refine ⟨fun h => ?_, fun h => ?_⟩
   ·subst h; cases f <;> rfl
   ·cases q with
    | z => exact absurd rfl h
    | l q =>
      cases f with
      | e => show mY q .e = undef; exact sU q
      | n => rfl
    | r q =>
      cases f with
      | e => show mY q .e = undef; exact sU q
      | n => rfl
 | l p ih =>
   have h1 : ∀ f, oQ v (.l p) f (fun f => f) = match f with | .e => .n undef (oQ v p .e fun f => f) .e | .n w l r => .n w (oQ v p l fun f => f) r := fun f => by
    cases f with
    | e => exact rL v p .e fun l => Fr.n undef l .e
    | n w l r => exact rL v p l fun l => Fr.n w l r
   rw [h1]
   cases q with
   | z => exact ⟨fun h => (nomatch h), fun _ => by cases f <;> rfl⟩
   | r q =>
     refine ⟨fun h => (nomatch h), fun _ => ?_⟩
     cases f with
     | e => show mY q .e = undef; exact sU q
     | n => rfl
   | l q =>
     refine ⟨fun h => ?_, fun h => ?_⟩
     ·injection h with h
      cases f with
      | e => exact (ih q .e).1 h
      | n w l r => exact (ih q l).1 h
     ·have h : q ≠ p := fun e => h (by rw [e])
      cases f with
      | e => show mY q (oQ v p .e fun f => f) = undef; rw [(ih q .e).2 h, sU]
      | n w l r => exact (ih q l).2 h
 | r p ih =>
   have h1 : ∀ f, oQ v (.r p) f (fun f => f) = match f with | .e => .n undef .e (oQ v p .e fun f => f) | .n w l r => .n w l (oQ v p r fun f => f) := fun f => by
    cases f with
    | e => exact rL v p .e fun l => Fr.n undef .e l
    | n w l r => exact rL v p r fun r => Fr.n w l r
   rw [h1]
   cases q with
   | z => exact ⟨fun h => (nomatch h), fun _ => by cases f <;> rfl⟩
   | l q =>
     refine ⟨fun h => (nomatch h), fun _ => ?_⟩
     cases f with
     | e => show mY q .e = undef; exact sU q
     | n => rfl
   | r q =>
     refine ⟨fun h => ?_, fun h => ?_⟩
     ·injection h with h
      cases f with
      | e => exact (ih q .e).1 h
      | n w l r => exact (ih q r).1 h
     ·have h : q ≠ p := fun e => h (by rw [e])
      cases f with
      | e => show mY q (oQ v p .e fun f => f) = undef; rw [(ih q .e).2 h, sU]
      | n w l r => exact (ih q r).2 h
def FAg (f : Fr) (l : List Value) : Prop := ∀ t, mY (kE t) f = get l t
def FRel (k : Nat) (f : Fr) (l : List Value) : Prop := l.length = k ∧ FAg f l
noncomputable def b4r (f : Fr) (t : Tmp) (v : Value) : Fr := oQ v (kE t) f fun f => f
theorem a2Z (f : Fr) (t u : Tmp) (v : Value) : mY (kE u) (b4r f t v) = if u = t then v else mY (kE u) f := by
 have h := b1i v (kE t) (kE u) f
 by_cases he : u = t
 ·rw [if_pos he]; exact h.1 (by rw [he])
 ·rw [if_neg he]; exact h.2 (fun e => he (a9x e))
theorem FRel.put {k : Nat} {f : Fr} {l : List Value} (h : FRel k f l) {t : Tmp} (ht : t < k) (v : Value) : FRel k (b4r f t v) (Go.Ds.put l (some t) v) := by
 refine ⟨by simp [Go.Ds.put, mE, h.1], fun u => ?_⟩
 rw [a2Z, b0n]
 by_cases he : u = t
 ·subst he; rw [if_pos rfl, if_pos ⟨rfl, by rw [h.1]; exact ht⟩]
 ·rw [if_neg he, if_neg (fun hh => he (cR hh.1).symm)]; exact h.2 u
theorem FRel.set {k : Nat} {f : Fr} {l : List Value} (h : FRel k f l) {t : Tmp} (ht : t < k) (v : Value) : FRel k (b4r f t v) (l.set t v) := by
 have := h.put ht v
 simpa [Go.Ds.put, mE] using this
def Rs.Is (r : Rs) (v : Value) (H : Heap) : Prop := r = .ok v H ∨ r = .th v H
theorem Rs.ar {v : Value} {H : Heap} : ¬ Rs.no.Is v H := by rintro (h | h) <;> cases h
theorem Rs.aK {v w : Value} {H H1 : Heap} (h : (Rs.ok v H).Is w H1) : w = v ∧ H1 = H := by
 rcases h with h | h
 ·injection h with a b; exact ⟨a.symm, b.symm⟩
 ·cases h
theorem Rs.aM {v w : Value} {H H1 : Heap} (h : (Rs.th v H).Is w H1) : w = v ∧ H1 = H := by
 rcases h with h | h
 ·cases h
 ·injection h with a b; exact ⟨a.symm, b.symm⟩
theorem kC (b : Bool) (no x : α) : mX b no x = if b = true then x else no := by cases b <;> rfl
theorem kP {b : Bool} {x : Rs} {v : Value} {H : Heap} (h : (mX b Rs.no x).Is v H) : b = true ∧ x.Is v H := by
 cases b with
 | false => exact absurd h Rs.ar
 | true => exact ⟨rfl, h⟩
theorem xL {β : Type} : ∀ (cs : List β) (e : Nat), a5a cs e = decide (e ≤ cs.length)
 | [], 0 => rfl
 | [], e + 1 => by simp; rfl
 | _ :: _, 0 => rfl
 | _ :: cs, e + 1 => by show a5a cs e = _; rw [xL cs e]; simp
theorem wV {β : Type} : ∀ (cs : List β) (e : Nat), a2U cs e = decide (e = cs.length)
 | [], 0 => rfl
 | [], e + 1 => by simp; rfl
 | _ :: _, 0 => by simp; rfl
 | _ :: cs, e + 1 => by show a2U cs e = _; rw [wV cs e]; simp
theorem xG {β : Type} : ∀ (cs : List β) (e : Nat), a0g cs e = cs[e]?
 | [], _ => rfl
 | _ :: _, 0 => rfl
 | _ :: cs, e + 1 => by show a0g cs e = _; rw [xG cs e]; simp
theorem a5v {β : Type} : ∀ (cs : List β) (e : Nat), b0c cs e = cs.drop e
 | [], e => by cases e <;> rfl
 | _ :: _, 0 => rfl
 | _ :: cs, e + 1 => by show b0c cs e = _; rw [a5v cs e]; rfl
theorem a5C {β : Type} : ∀ {cs : List β} {n : Nat} {K : List β → Rs} {v : Value} {H : Heap}, (a1f cs n K).Is v H → n ≤ cs.length ∧ (K (cs.take n)).Is v H
 | [], 0, K, v, H, h => ⟨da _, h⟩
 | [], n + 1, K, v, H, h => absurd h Rs.ar
 | _ :: _, 0, K, v, H, h => ⟨eI _, h⟩
 | c :: cs, n + 1, K, v, H, h => by
   have h' : (a1f cs n fun l => K (c :: l)).Is v H := h
   obtain ⟨h1, h2⟩ := a5C h'
   exact ⟨by simp; omega, h2⟩
theorem b6N {a b : IntKind} (h : Nat.beq (kIx a) (kIx b) = true) : a = b := by
 cases a <;> cases b <;> first | rfl | (exact absurd h (by decide))
theorem b5B (k : Nat) (K : List Pth → α) : b4X k K = K ((List.range k).map kE).reverse := by
 induction k generalizing K with
 | zero => rfl
 | succ n ih =>
   show lB (kE n) (fun p => b4X n fun l => K (p :: l)) = _
   rw [kW, ih, dS]
   simp
theorem b7Q {β : Type} (l : List β) : ∀ (a : List β) (K : List β → α), b9c l a K = K (l.reverse ++ a) := by
 induction l with
 | nil => intro a K; rfl
 | cons x l ih => intro a K; show b9c l (x :: a) K = _; rw [ih]; simp
theorem a9r (k : Nat) (K : List Pth → α) : b0H k K = K ((List.range k).map kE) := by
 unfold b0H; rw [b5B, b7Q]; simp
theorem oA (n : Nat) (d : α) (K : Nat → α) : a2n (some n) d K = K n := jN n K
def LK (H H' : Heap) : Prop := H.length ≤ H'.length ∧ ∀ A r', A < H.length → iI H' A = some (.loop r') →
 ∃ r, iI H A = some (.loop r) ∧ r'.assign = r.assign ∧ r'.body = r.body ∧ r'.params = r.params ∧ r'.tmps = r.tmps
theorem LK.refl (H : Heap) : LK H H := ⟨da _, fun _ r _ h => ⟨r, h, rfl, rfl, rfl, rfl⟩⟩
theorem LK.trans {H H1 H2 : Heap} (h : LK H H1) (k : LK H1 H2) : LK H H2 := ⟨dq h.1 k.1, fun A r' hA hr => by
 obtain ⟨r1, h1, a1, b1, c1, d1⟩ := k.2 A r' (dy hA h.1) hr
 obtain ⟨r, h2, a2, b2, c2, d2⟩ := h.2 A r1 hA h1
 exact ⟨r, h2, a1.trans a2, b1.trans b2, c1.trans c2, d1.trans d2⟩⟩
def Blk.bZ : Blk → Bool
 | .loop _ => true
 | _ => false
theorem LK.hset (H : Heap) (A : Nat) {b : Blk} (hb : b.bZ = false) : LK H (hset H A b) := by
 refine ⟨by rw [jC]; exact da _, fun B r' hB h => ?_⟩
 by_cases he : A = B
 ·subst he; rw [iJ _ hB] at h; injection h with h; subst h; cases hb
 ·rw [iR _ he] at h; exact ⟨r', h, rfl, rfl, rfl, rfl⟩
theorem LK.cons (H : Heap) (b : Blk) : LK H (H.cons b) := by
 refine ⟨by rw [length_cons]; omega, fun B r' hB h => ?_⟩
 rw [jK b hB] at h; exact ⟨r', h, rfl, rfl, rfl, rfl⟩
theorem LK.row (H : Heap) (ty : TypeId) (cs : List Value) : LK H (qN H ty cs) := by rw [lH]; exact .cons _ _
theorem LK.loop {H : Heap} {L : Nat} {r r' : Loop} (h : iI H L = some (.loop r)) (e : r'.assign = r.assign ∧ r'.body = r.body ∧ r'.params = r.params ∧ r'.tmps = r.tmps) : LK H (Go.Ds.hset H L (.loop r')) := by
 refine ⟨by rw [jC]; exact da _, fun B r2 hB hg => ?_⟩
 by_cases he : L = B
 ·subst he; rw [iJ _ hB] at hg; injection hg with hg; injection hg with hg; subst hg; exact ⟨r, h, e⟩
 ·rw [iR _ he] at hg; exact ⟨r2, hg, rfl, rfl, rfl, rfl⟩
variable {P : Program}
theorem a4T {H H' : Heap} {t : TypeId} {p v : Value} (h : pS P H t p v = some H') : LK H H' := by
 unfold pS at h
 split at h
 ·split at h
  ·dsimp only at h
   split at h
   ·injection h with h; subst h; exact .hset _ _ rfl
   ·cases h
  ·cases h
 ·cases h
theorem a3k {H H' : Heap} {t : TypeId} {v r : Value} (h : vQ P H t v = some (r, H')) : LK H H' := by
 unfold vQ at h
 dsimp only at h
 split at h
 ·injection h with h; injection h with _ h; subst h; exact .row _ _ _
 ·cases h
theorem a4i {H H' : Heap} {t : TypeId} {s x r : Value} (h : mO P H t s x = some (r, H')) : LK H H' := by
 unfold mO at h
 simp only [cU] at h
 obtain ⟨elem, _, size, _, bytes, _, z, _, ⟨n, l⟩, _, h⟩ := h
 try dsimp only at h
 split at h
 ·split at h
  ·split at h
   ·injection h with h; injection h with _ h; subst h; exact .refl _
   ·injection h with h; injection h with _ h; subst h; exact .row _ _ _
  ·cases h
 ·split at h
  ·split at h
   ·injection h with h; injection h with _ h; subst h; exact .hset _ _ rfl
   ·split at h
    ·injection h with h; injection h with _ h; subst h; exact .hset _ _ rfl
    ·cases h
  ·cases h
 ·cases h
theorem a4R {H H' : Heap} {t : TypeId} {v r : Value} (h : pR P H t v = some (r, H')) : LK H H' := by
 unfold pR at h
 split at h
 ·dsimp only at h
  rename_i n elem _
  have key : ∀ (b : Bool), (if b = true then some (Value.pointer (some ⟨H.length, 0, some v.cells.toList.length⟩), b3d H elem v.cells.toList) else none) = some (r, H') → LK H H' := by
   intro b h
   cases b
   ·cases h
   ·injection h with h; injection h with _ h; subst h; rw [a0p]; exact .cons _ _
  exact key _ h
 ·exact a3k h
theorem a4B {H H' : Heap} {t : TypeId} {x y r : Value} (h : tW P H t x y = some (r, H')) : LK H H' := by
 unfold tW at h
 split at h
 ·split at h
  ·split at h
   ·simp only [cZ] at h
    obtain ⟨_, _, h⟩ := h
    injection h with _ h; subst h; exact .hset _ _ rfl
   ·cases h
  ·cases h
 ·cases h
theorem a3I {H H' : Heap} {k : FuncId} {args : List Value} {r : Value} (h : oZ P k args H = some (r, H')) : LK H H' := by
 unfold oZ at h
 simp only [cU] at h
 obtain ⟨fn, _, h⟩ := h
 split at h
 case isFalse => cases h
 split at h
 ·split at h
  ·injection h with h; injection h with _ h; subst h; exact .refl _
  ·cases h
 split at h
 ·split at h
  ·split at h
   ·simp only [cU] at h
    obtain ⟨_, _, h⟩ := h
    split at h
    ·injection h with h; injection h with _ h; subst h; exact .row _ _ _
    ·cases h
   ·cases h
  ·cases h
 split at h
 ·split at h
  ·split at h
   ·split at h
    ·injection h with h; injection h with _ h; subst h; exact .refl _
    ·cases h
   ·cases h
  ·cases h
 ·cases h
theorem a7R {H H' : Heap} {t : TypeId} {s x r : Value} (h : zU P H t s x = some (r, H')) : LK H H' := by
 unfold zU at h
 simp only [cU] at h
 obtain ⟨elem, _, size, _, m, _, h⟩ := h
 try dsimp only at h
 split at h
 ·split at h
  ·injection h with h; injection h with _ h; subst h; exact .refl _
  ·cases h
 ·split at h
  ·injection h with h; injection h with _ h; subst h; exact .refl _
  ·simp only [cU] at h
   obtain ⟨l, _, h⟩ := h
   split at h
   ·split at h
    ·injection h with h; injection h with _ h; subst h; exact .hset _ _ rfl
    ·cases h
   ·cases h
 ·cases h
theorem a5B {H H' : Heap} {t : TypeId} {x r : Value} (h : rR P H t x = some (r, H')) : LK H H' := by
 unfold rR at h
 simp only [cU] at h
 obtain ⟨elem, _, z, _, h⟩ := h
 split at h
 ·injection h with h; injection h with _ h; subst h; exact .refl _
 ·split at h
  ·injection h with h; injection h with _ h; subst h; exact .refl _
  ·try dsimp only at h
   split at h
   ·split at h
    ·injection h with h; injection h with _ h; subst h; exact .hset _ _ rfl
    ·cases h
   ·cases h
 ·cases h
theorem b1f {H H' : Heap} {t : TypeId} {m k v : Value} (h : a0e P H t m k v = some H') : LK H H' := by
 unfold a0e at h
 simp only [cU] at h
 obtain ⟨⟨kt, et⟩, _, h⟩ := h
 dsimp only at h
 split at h
 ·split at h
  ·split at h
   ·simp only [cU] at h
    obtain ⟨r, _, h⟩ := h
    split at h
    ·simp only [cU] at h
     obtain ⟨e, _, h⟩ := h
     split at h
     ·injection h with h; subst h; exact .hset _ _ rfl
     ·cases h
    ·injection h with h; subst h; exact .hset _ _ rfl
   ·cases h
  ·cases h
 ·cases h
theorem a6I {H H' : Heap} {t : TypeId} {m k r : Value} (h : qZ P H t m k = some (r, H')) : LK H H' := by
 unfold qZ at h
 simp only [cU] at h
 obtain ⟨⟨kt, et⟩, _, h⟩ := h
 dsimp only at h
 split at h
 ·split at h
  ·split at h
   ·simp only [cU] at h
    obtain ⟨r, _, h⟩ := h
    split at h
    ·simp only [cU] at h
     obtain ⟨e, _, h⟩ := h
     split at h
     ·injection h with h; injection h with _ h; subst h; exact .hset _ _ rfl
     ·cases h
    ·simp only [cU] at h
     obtain ⟨z, _, h⟩ := h
     split at h
     ·injection h with h; injection h with _ h; subst h; exact .hset _ _ rfl
     ·cases h
   ·cases h
  ·cases h
 ·cases h
theorem a5W {H H' : Heap} {m b v : Value} (h : qH H m b v = some H') : LK H H' := by
 unfold qH at h
 split at h
 ·split at h
  ·split at h
   ·simp only [cU] at h
    obtain ⟨e, _, h⟩ := h
    injection h with h; subst h; exact .hset _ _ rfl
   ·cases h
  ·cases h
 ·cases h
theorem a2a {H H' : Heap} {t : TypeId} {o : Option Value} {r : Value} (h : oG P H t o = some (r, H')) : LK H H' := by
 unfold oG at h
 simp only [cU] at h
 obtain ⟨_, _, h⟩ := h
 split at h
 ·injection h with h; injection h with _ h; subst h; exact .cons _ _
 ·injection h with h; injection h with _ h; subst h; exact .cons _ _
 ·cases h
theorem a5e {H H' : Heap} {o : Oper} {l : List Value} {r : Value} (h : jZ P o l H = some (r, H')) : H' = H := by
 unfold jZ at h
 split at h
 ·split at h
  ·split at h
   ·injection h with h; injection h with _ h; exact h.symm
   ·cases h
  ·cases h
 ·cases h
theorem uB {H H' : Heap} {v r : Value} (h : some (v, H) = some (r, H')) : LK H H' := by injection h with h; injection h with _ h; subst h; exact .refl _
theorem sZ {H H' : Heap} {v : Option Value} {r : Value} (h : v.map (fun v => (v, H)) = some (r, H')) : LK H H' := by
 cases v with
 | none => cases h
 | some v => exact uB h
set_option maxHeartbeats 1000000 in
theorem b3v {H H' : Heap} {o : Oper} {l : List Value} {r : Value} (h : opD P o l H = some (r, H')) : LK H H' := by
 obtain ⟨dst, op, type, pos, after, guard⟩ := o
 have pl : ∀ {o : Oper}, jZ P o l H = some (r, H') → LK H H' := fun h => by rw [a5e h]; exact .refl _
 cases op with
 | alloc t =>
   simp only [opD, cU] at h
   obtain ⟨z, _, h⟩ := h
   split at h
   ·exact a4R h
   ·cases h
 | box t x => simp only [opD] at h; exact a3k h
 | store t x y =>
   simp only [opD, cZ] at h
   obtain ⟨H1, h, e⟩ := h
   injection e with _ e; subst e
   exact a4T h
 | mapUpdate t m x y =>
   simp only [opD, cZ] at h
   obtain ⟨H1, h, e⟩ := h
   injection e with _ e; subst e
   exact b1f h
 | mapEntry t m x => simp only [opD] at h; exact a6I h
 | entryStore t m x y =>
   simp only [opD, cZ] at h
   obtain ⟨H1, h, e⟩ := h
   injection e with _ e; subst e
   exact a5W h
 | makeMap t x => simp only [opD] at h; exact a2a h
 | buildSlice t len parts =>
   simp only [opD, cU] at h
   obtain ⟨elem, _, size, _, z, _, h⟩ := h
   split at h
   ·injection h with h; injection h with _ h; subst h; exact .row _ _ _
   split at h
   ·simp only [cZ] at h
    obtain ⟨cs, _, e⟩ := h
    injection e with _ e; subst e
    exact .row _ _ _
   ·cases h
 | makeSlice t n c =>
   simp only [opD, cU] at h
   obtain ⟨elem, _, size, _, bytes, _, z, _, h⟩ := h
   split at h
   ·split at h
    ·injection h with h; injection h with _ h; subst h; exact .row _ _ _
    ·cases h
   ·cases h
 | call c =>
   simp only [opD] at h
   split at h
   ·split at h
    ·split at h
     all_goals first | exact sZ h | cases h
    ·cases h
   ·split at h
    ·exact a4i h
    ·cases h
   ·split at h
    ·exact a7R h
    ·cases h
   ·split at h
    ·exact a5B h
    ·cases h
   ·exact pl h
   ·split at h
    ·split at h
     ·split at h
      ·cases h
      ·exact uB h
     ·cases h
    ·cases h
   ·split at h
    ·exact a4B h
    ·cases h
   ·exact pl h
   ·exact pl h
   ·cases h
 | convert s t x =>
   simp only [opD] at h
   split at h
   ·exact pl h
   ·split at h
    ·split at h
     ·exact sZ h
     ·cases h
    ·split at h
     ·simp only [cU] at h
      obtain ⟨_, _, h⟩ := h
      injection h with h; injection h with _ h; subst h
      rw [b0a]; exact .cons _ _
     ·cases h
    ·split at h
     ·exact uB h
     ·cases h
    ·cases h
 | slice t x lo hi mx =>
   cases mx with
   | some _ => simp only [opD] at h; cases h
   | none =>
     simp only [opD] at h
     split at h
     ·exact pl h
     ·split at h
      ·exact sZ h
      ·exact sZ h
 | _ =>
   simp only [opD] at h
   repeat' first
    | exact LK.refl _
    | exact uB h
    | exact sZ h
    | exact pl h
    | (cases h; done)
    | split at h
    | (simp only [cU, cZ] at h; obtain ⟨_, _, h⟩ := h)
    | (obtain ⟨_, _, h⟩ := h)
    | (injection h with h; injection h with _ h; subst h; exact LK.refl _)
    | (injection h with _ h; subst h; exact LK.refl _)
    | (cases h; exact LK.refl _)
end
end Go.Ds
namespace Go.Ds
variable {P : Program}
structure CallsOk (P : Program) (C : Calls') (H0 : Heap) : Prop where
 fn : ∀ p f args H v H1, LK H0 H → (C.fn p f args H).Is v H1 → p = kE f → (FnS P f args H (fun v' H' => v' = v ∧ H' = H1) ∨ oZ P f args H = some (v, H1)) ∧ LK H H1
 rd : ∀ L args H v H1, LK H0 H → (C.rd L args H).Is v H1 → wB P L args H v H1 ∧ LK H H1
noncomputable def iN (x : Operand) : LArg := match x with
 | .tmp t => .t (kE t)
 | .const v => .c v
 | .global g => .c (.pointer (some ⟨g, 0, none⟩))
 | .func k => .c (.func (.func k) #[] #[])
theorem kL {α : Type} (x : Operand) (K : LArg → α) : lC x K = K (iN x) := by
 cases x with
 | tmp t => exact kW _ _
 | _ => rfl
theorem jI {f : Fr} {l : List Value} (h : FAg f l) (x : Operand) : lU f (iN x) = ev l x := by
 cases x with
 | tmp t => exact h t
 | _ => rfl
theorem a2M {α : Type} (l : List Operand) (K : List LArg → α) : a4x l K = K (l.map iN) := by
 induction l generalizing K with
 | nil => rfl
 | cons x l ih =>
   show lC x (fun x => a4x l fun l => K (x :: l)) = _
   rw [kL, ih]; rfl
theorem a5t {α : Type} {f : Fr} {l : List Value} (h : FAg f l) (xs : List Operand) (K : List Value → α) : a3s f (xs.map iN) K = K (xs.map (ev l)) := by
 induction xs generalizing K with
 | nil => rfl
 | cons x xs ih =>
   show nC (lU f (iN x)) (fun v => a3s f (xs.map iN) fun l => K (v :: l)) = _
   rw [mA, ih, jI h]; rfl
theorem c0T {f : Fr} {l : List Value} (h : FAg f l) : evF f = ev l := by
 funext x
 cases x with
 | tmp t => exact h t
 | _ => rfl
def uM (P : Program) (o : Oper) (lo : LOp) : Prop := ∀ C H0 f l H v H1, CallsOk P C H0 → LK H0 H → FAg f l → (opF P C lo f H).Is v H1 → StepR P o l H v H1 ∧ LK H H1
def LowPl (P : Program) (o : Oper) (lo : LOp) : Prop := ∀ C f l H v H1, FAg f l → (opF P C lo f H).Is v H1 → opD P o l H = some (v, H1)
theorem LowPl.low {o : Oper} {lo : LOp} (hok : o.op.operands.toList.all iE = true) (h : LowPl P o lo) : uM P o lo :=
 fun C _ f l H v H1 _ _ hf hr => by have := h C f l H v H1 hf hr; exact ⟨.op hok this, b3v this⟩
theorem b5P (o : Oper) : uM P o .bad := fun _ _ _ _ _ _ _ _ _ _ h => absurd h Rs.ar
theorem b6K (o : Oper) : LowPl P o (.gen o) := fun C f l H v H1 hf hr => by
 have hr : (match c0M P o (evF f) H with | some (v, H1) => Rs.th v H1 | none => .no).Is v H1 := hr
 rw [c0T hf] at hr
 have e : c0M P o (ev l) H = opD P o l H := rfl
 rw [e] at hr
 split at hr
 ·rename_i v2 H2 h2
  obtain ⟨rfl, rfl⟩ := Rs.aM hr
  exact h2
 ·exact absurd hr Rs.ar
section
variable {dst : Option Tmp} {type : TypeId} {pos : String} {after : Array Edge} {guard : Option (Nat × Bool)}
theorem c0p (x : Operand) : LowPl P ⟨dst, .move x, type, pos, after, guard⟩ (.mv (iN x)) := fun C f l H v H1 hf hr => by
 have hr : (nC (lU f (iN x)) fun v => Rs.ok v H).Is v H1 := hr
 rw [mA, jI hf] at hr
 obtain ⟨rfl, rfl⟩ := Rs.aK hr
 rfl
theorem c0G (x : Operand) : LowPl P ⟨dst, .assign x, type, pos, after, guard⟩ (.mv (iN x)) := fun C f l H v H1 hf hr => by
 have hr : (nC (lU f (iN x)) fun v => Rs.ok v H).Is v H1 := hr
 rw [mA, jI hf] at hr
 obtain ⟨rfl, rfl⟩ := Rs.aK hr
 rfl
theorem b2T (c a b : Operand) : LowPl P ⟨dst, .pick c a b, type, pos, after, guard⟩ (.pick (iN c) (iN a) (iN b)) := fun C f l H v H1 hf hr => by
 have hr : (b5y (iN c) (iN a) (iN b) f H).Is v H1 := hr
 unfold b5y at hr
 rw [jI hf] at hr
 split at hr
 ·rename_i t ht
  rw [mA] at hr
  simp only [opD, ht]
  cases t
  ·have hr : (Rs.ok (lU f (iN b)) H).Is v H1 := hr
   rw [jI hf] at hr
   obtain ⟨rfl, rfl⟩ := Rs.aK hr; rfl
  ·have hr : (Rs.ok (lU f (iN a)) H).Is v H1 := hr
   rw [jI hf] at hr
   obtain ⟨rfl, rfl⟩ := Rs.aK hr; rfl
 ·exact absurd hr Rs.ar
theorem b8b (a b : Int) : c1L a b = a * b := by cases a <;> cases b <;> rfl
theorem a3H (a b : Int) : c3g a b = a.tdiv b := by cases a <;> cases b <;> rfl
theorem a3Z (a b : Int) : c2N a b = a.tmod b := by cases a <;> cases b <;> rfl
theorem b7o {op : BinOp} {g : IntKind → Int → Int → Option Value} (h : b6p op = some g) (k : IntKind) (a b : Int) : lT op k a b = g k a b := by
 cases op <;> simp only [b6p] at h <;> first | (cases h; done) | (injection h with h; subst h)
 all_goals first
  | rfl
  | (simp only [lT, c2e, b8b]; done)
  | (simp only [lT, b7g, a3H]; done)
  | (simp only [lT, b6Y, a3Z]; done)
  | (simp only [lT, b7g, a3H]; rfl)
  | (simp only [lT, b6Y, a3Z]; rfl)
  | (simp only [lT, b7g, a3H]; cases eqI b 0 <;> rfl)
  | (simp only [lT, b6Y, a3Z]; cases eqI b 0 <;> rfl)
theorem c3k {o : Option Value} {H H1 : Heap} {v : Value} (h : (oV o H).Is v H1) : o = some v ∧ H1 = H := by
 cases o with
 | none => exact absurd h Rs.ar
 | some w => obtain ⟨rfl, rfl⟩ := Rs.aM h; exact ⟨rfl, rfl⟩
theorem b3m {o : Option Value} {H H1 : Heap} {v : Value} (h : (okV o H).Is v H1) : o = some v ∧ H1 = H := by
 cases o with
 | none => exact absurd h Rs.ar
 | some w =>
   have h : (nC w fun v => Rs.ok v H).Is v H1 := h
   rw [mA] at h
   obtain ⟨rfl, rfl⟩ := Rs.aK h; exact ⟨rfl, rfl⟩
theorem b7l {op : BinOp} {g : IntKind → Int → Int → Option Value} (hg : b6p op = some g) (t yt : TypeId) (x y : Operand) : LowPl P ⟨dst, .binOp op t x y yt, type, pos, after, guard⟩ (.bin g (iN x) (iN y)) := fun C f l H v H1 hf hr => by
 have hr : (c1c g (iN x) (iN y) f H).Is v H1 := hr
 unfold c1c at hr
 rw [jI hf] at hr
 split at hr
 ·rename_i k a hx
  unfold b8P at hr
  rw [jI hf] at hr
  split at hr
  ·rename_i k' b hy
   obtain ⟨hk, hq⟩ := kP hr
   obtain rfl := b6N hk
   obtain ⟨hv, rfl⟩ := c3k hq
   rw [← b7o hg] at hv
   have : opD P ⟨dst, .binOp op t x y yt, type, pos, after, guard ⟩ l H1 = if k = k then (match lT op k a b with | some v => some (v, H1) | none => jZ P ⟨dst, .binOp op t x y yt, type, pos, after, guard ⟩ l H1) else jZ P ⟨dst, .binOp op t x y yt, type, pos, after, guard ⟩ l H1 := by
    simp only [opD, hx, hy]
    cases op <;> rfl
   rw [this, if_pos rfl, hv]
  ·exact absurd hr Rs.ar
 ·exact absurd hr Rs.ar
theorem b5T {b : Option Blk} {i e : Nat} {H H1 : Heap} {v : Value} (h : (b7p b i e H).Is v H1) : H1 = H ∧ ∃ cs ty rw lo ver, b = some (.cells cs ty rw lo ver) ∧ lo ≤ e ∧ e ≤ cs.length ∧ i + 1 ≤ e ∧ cs[i]? = some v := by
 unfold b7p at h
 split at h
 ·rename_i cs ty rw lo ver
  obtain ⟨h1, h⟩ := kP h
  obtain ⟨h2, h⟩ := kP h
  obtain ⟨h3, h⟩ := kP h
  have h : (okV (a0g cs i) H).Is v H1 := h
  obtain ⟨h4, h5⟩ := b3m h
  rw [xL] at h2
  rw [xG] at h4
  exact ⟨h5, cs, ty, rw, lo, ver, rfl, dV h1, by simpa using h2, dV h3, h4⟩
 ·exact absurd h Rs.ar
theorem b6E {b : Option Blk} {n i e : Nat} {H H1 : Heap} {v : Value} (h : (b8a b n i e H).Is v H1) : H1 = H ∧ ∃ cs ty rw lo ver, b = some (.cells cs ty rw lo ver) ∧ lo ≤ e ∧ e ≤ cs.length ∧ i + n ≤ e ∧ v = .agg ((cs.drop i).take n).toArray := by
 unfold b8a at h
 split at h
 ·rename_i cs ty rw lo ver
  obtain ⟨h1, h⟩ := kP h
  obtain ⟨h2, h⟩ := kP h
  obtain ⟨h3, h⟩ := kP h
  obtain ⟨h4, h⟩ := a5C h
  obtain ⟨rfl, rfl⟩ := Rs.aK h
  rw [xL] at h2
  exact ⟨rfl, cs, ty, rw, lo, ver, rfl, dV h1, by simpa using h2, dV h3, by rw [a5v]⟩
 ·exact absurd h Rs.ar
theorem a9v {X : LArg} {f : Fr} {H H1 : Heap} {v w : Value} {t : TypeId} (ht : jF P t = some false) (hw : lU f X = w) (h : (b1w X f H).Is v H1) : H1 = H ∧ lD P H t w = some v := by
 unfold b1w at h
 rw [hw] at h
 split at h
 ·rename_i A i e
  obtain ⟨h1, cs, ty, rw', lo, ver, h2, h3, h4, h5, h6⟩ := b5T h
  refine ⟨h1, ?_⟩
  simp only [lD, ht, iU, h2]
  rw [if_pos (by simp; omega)]
  simp [h6]
 ·rename_i A i
  unfold b9p at h
  split at h
  ·rename_i cs ty lo hg
   obtain ⟨h1, h⟩ := kP h
   rw [xL] at h1
   have h1 : lo ≤ cs.length := by simpa using h1
   cases hn : a0g cs i with
   | none => rw [hn] at h; exact absurd h Rs.ar
   | some c =>
     rw [hn] at h
     have h : (nC c fun v => Rs.ok v H).Is v H1 := h
     rw [mA] at h
     obtain ⟨rfl, rfl⟩ := Rs.aK h
     rw [xG] at hn
     have hi := (dh.1 hn).1
     refine ⟨rfl, ?_⟩
     simp only [lD, ht, iU, hg]
     rw [if_pos (by simp; omega)]
     simp [hn]
  ·exact absurd h Rs.ar
 ·exact absurd h Rs.ar
theorem a9w {X : LArg} {f : Fr} {H H1 : Heap} {v w : Value} {t : TypeId} {n : Nat} (ht : jF P t = some true) (hn : gW P t = some n) (hw : lU f X = w) (h : (b0y n X f H).Is v H1) : H1 = H ∧ lD P H t w = some v := by
 unfold b0y at h
 rw [hw] at h
 split at h
 ·rename_i A i e
  obtain ⟨h1, cs, ty, rw', lo, ver, h2, h3, h4, h5, h6⟩ := b6E h
  refine ⟨h1, ?_⟩
  simp only [lD, ht, hn, cT, iU, h2]
  rw [if_pos (by simp; omega), h6]
  rfl
 ·exact absurd h Rs.ar
theorem b6m {t : TypeId} (ht : jF P t = some false) (x : Operand) : LowPl P ⟨dst, .load t x, type, pos, after, guard⟩ (.ld1 (iN x)) := fun C f l H v H1 hf hr => by
 obtain ⟨rfl, h⟩ := a9v (P := P) ht (jI hf x) hr
 simp only [opD, h, dD]
theorem b8f {t : TypeId} {n : Nat} (ht : jF P t = some true) (hn : gW P t = some n) (x : Operand) : LowPl P ⟨dst, .load t x, type, pos, after, guard⟩ (.ldn n (iN x)) := fun C f l H v H1 hf hr => by
 obtain ⟨rfl, h⟩ := a9w (P := P) ht hn (jI hf x) hr
 simp only [opD, h, dD]
theorem b9q {t : TypeId} {n : Nat} (hn : gW P t = some n) (x y : Operand) : LowPl P ⟨dst, .store t x y, type, pos, after, guard⟩ (.st n (iN x) (iN y)) := fun C f l H v H1 hf hr => by
 have hr : (hSt n (iN x) (iN y) f H).Is v H1 := hr
 unfold hSt at hr
 rw [jI hf, jI hf] at hr
 split at hr
 ·rename_i A i e hx
  unfold stB at hr
  split at hr
  ·rename_i cs ty lo ver hg
   obtain ⟨h1, hr⟩ := kP hr
   obtain ⟨h2, hr⟩ := kP hr
   obtain ⟨h3, hr⟩ := kP hr
   obtain ⟨h4, hr⟩ := kP hr
   obtain ⟨h5, hr⟩ := kP hr
   obtain ⟨rfl, rfl⟩ := Rs.aM hr
   rw [wV] at h1 h3
   have h1 : n = (ev l y).cells.toList.length := by simpa only [decide_eq_true_eq] using h1
   have h3 : e = cs.length := by simpa only [decide_eq_true_eq] using h3
   have h4 : i + n ≤ e := dV h4
   have h5 : lo ≤ e := dV h5
   simp only [opD, pS, hx, hg]
   rw [if_pos ⟨by rw [hn, h1], h2, h3, by omega, h5⟩]
   simp only [dD]
   rw [h3]
  ·exact absurd hr Rs.ar
 ·exact absurd hr Rs.ar
theorem b9w {s : TypeId} {k n : Nat} {fd : Field} (hf' : nG P s k = some fd) (hn : gW P fd.type = some n) (hn0 : n ≠ 0) (x : Operand) : LowPl P ⟨dst, .fieldAddr s x k, type, pos, after, guard⟩ (.fa fd.offset (iN x)) := fun C f l H v H1 hf hr => by
 have hr : (hFa fd.offset (iN x) f H).Is v H1 := hr
 unfold hFa at hr
 rw [jI hf] at hr
 split at hr
 ·rename_i A i e hx
  rw [jN] at hr
  obtain ⟨rfl, rfl⟩ := Rs.aK hr
  simp only [opD, hx, hf', cT, hn]
  rw [if_neg (by simpa using hn0)]; rfl
 ·exact absurd hr Rs.ar
theorem b5o {A i e size n : Nat} {H H1 : Heap} {j v : Value} (h : (ixP A i e size n H j).Is v H1) : H1 = H ∧ ∃ k m, j = .int k (.ofNat m) ∧ m < n ∧ v = .pointer (some ⟨A, i + m * size, some e⟩) := by
 unfold ixP at h
 split at h
 ·rename_i k m
  obtain ⟨h1, h⟩ := kP h
  rw [jN] at h
  obtain ⟨rfl, rfl⟩ := Rs.aK h
  rw [blt_eq] at h1
  exact ⟨rfl, k, m, rfl, by simpa using h1, rfl⟩
 ·exact absurd h Rs.ar
theorem b7m {t elem : TypeId} {size : Nat} (ht : P.underlying t = some (.slice elem)) (hs : gW P elem = some size) (x i : Operand) : LowPl P ⟨dst, .indexAddr t x i, type, pos, after, guard⟩ (.ixs size (iN x) (iN i)) := fun C f l H v H1 hf hr => by
 have hr : (b9u size (iN x) (iN i) f H).Is v H1 := hr
 unfold b9u at hr
 rw [jI hf, jI hf] at hr
 split at hr
 ·rename_i A a e n c hx
  obtain ⟨rfl, k, m, hj, hm, rfl⟩ := b5o hr
  simp only [opD, ht, hx, hj, hs, cT]
  rw [if_pos (by simp; omega)]
  rfl
 ·exact absurd hr Rs.ar
theorem c1G (a b : Nat) : Nat.beq a b = (a == b) := by
 cases h : Nat.beq a b with
 | true => rw [dI h]; simp
 | false => have := Nat.ne_of_beq_eq_false h; simp [this]
theorem b9k {A i size n : Nat} {H H1 : Heap} {j v : Value} (h : (ixG A i size n H j).Is v H1) : H1 = H ∧ ∃ k m, j = .int k (.ofNat m) ∧ m < n ∧ v = .pointer (some ⟨A, i + m * size, none⟩) := by
 unfold ixG at h
 split at h
 ·rename_i k m
  obtain ⟨h1, h⟩ := kP h
  rw [jN] at h
  obtain ⟨rfl, rfl⟩ := Rs.aK h
  exact ⟨rfl, k, m, rfl, by simpa [gM] using h1, rfl⟩
 ·exact absurd h Rs.ar
theorem b7q {t elem : TypeId} {n size : Nat} (ht : P.underlying t = some (.array n elem)) (hs : gW P elem = some size) (x i : Operand) : LowPl P ⟨dst, .indexAddr t x i, type, pos, after, guard⟩ (.ixa n size (iN x) (iN i)) := fun C f l H v H1 hf hr => by
 have hr : (c0L n size (iN x) (iN i) f H).Is v H1 := hr
 unfold c0L at hr
 rw [jI hf, jI hf] at hr
 split at hr
 ·rename_i A a e hx
  obtain ⟨rfl, k, m, hj, hm, rfl⟩ := b5o hr
  simp only [opD, ht, hx, hj, hs, cT]
  rw [if_pos (by simp; omega)]
  rfl
 ·rename_i A a hx
  obtain ⟨rfl, k, m, hj, hm, rfl⟩ := b9k hr
  simp only [opD, ht, hx, hj, hs, cT]
  rw [if_pos (by simp; omega)]
  rfl
 ·exact absurd hr Rs.ar
theorem b6e (i : Nat) (x : Operand) : LowPl P ⟨dst, .extract x i, type, pos, after, guard⟩ (.ext i (iN x)) := fun C f l H v H1 hf hr => by
 have hr : (c0c i (iN x) f H).Is v H1 := hr
 unfold c0c at hr
 rw [jI hf] at hr
 split at hr
 ·rename_i vs hx
  obtain ⟨h1, rfl⟩ := b3m hr
  rw [xG] at h1
  simp only [opD, hx]
  simp [h1]
 ·exact absurd hr Rs.ar
theorem b6A {c : Call} {elem : TypeId} (hc : c.callee = .builtin .len) (h1 : c.args.size = 1) (h2 : c.argTypes.size = 1) (ht : P.underlying (c.argTypes.getD 0 0) = some (.slice elem)) : LowPl P ⟨dst, .call c, type, pos, after, guard⟩ (.len (iN (c.args.getD 0 (.tmp 0)))) := fun C f l H v H1 hf hr => by
 have hr : (c0W (iN (c.args.getD 0 (.tmp 0))) f H).Is v H1 := hr
 unfold c0W at hr
 rw [jI hf] at hr
 split at hr
 ·rename_i a n k hx
  obtain ⟨rfl, rfl⟩ := Rs.aM hr
  simp only [opD, hc, h1, h2, ht, hx, vA]; rfl
 ·exact absurd hr Rs.ar
theorem b2D {c : Call} (hc : c.callee = .builtin .len) (h1 : c.args.size = 1) (h2 : c.argTypes.size = 1) (ht : P.underlying (c.argTypes.getD 0 0) = some .string) : LowPl P ⟨dst, .call c, type, pos, after, guard⟩ (.slen (iN (c.args.getD 0 (.tmp 0)))) := fun C f l H v H1 hf hr => by
 have hr : (b3c (iN (c.args.getD 0 (.tmp 0))) f H).Is v H1 := hr
 unfold b3c at hr
 rw [jI hf] at hr
 split at hr
 ·rename_i s hx
  obtain ⟨rfl, rfl⟩ := Rs.aM hr
  simp only [opD, hc, h1, h2, ht, hx, vA]; rfl
 ·exact absurd hr Rs.ar
theorem b7O {c : Call} {elem : TypeId} {size bytes : Nat} {z : Value} (hc : c.callee = .builtin .append) (h1 : c.args.size = 2) (h2 : c.argTypes.size = 2) (hi : ((P.underlying (c.argTypes.getD 1 0)).map oO) = some true)
 (he : gZ P (c.argTypes.getD 0 0) = some elem) (hs : gW P elem = some size) (hb : nI P elem = some bytes) (hz : iS P elem = some z) (hzs : z.cells.size = size) (hs0 : size ≠ 0) :
 LowPl P ⟨dst, .call c, type, pos, after, guard⟩ (.app elem size bytes (iN (c.args.getD 0 (.tmp 0))) (iN (c.args.getD 1 (.tmp 0)))) := fun C f l H v H1 hf hr => by
 have hr : (b9F P elem size bytes (iN (c.args.getD 0 (.tmp 0))) (iN (c.args.getD 1 (.tmp 0))) f H).Is v H1 := hr
 unfold b9F at hr
 rw [jI hf, jI hf] at hr
 have hD : opD P ⟨dst, .call c, type, pos, after, guard⟩ l H = mO P H (c.argTypes.getD 0 0) (ev l (c.args.getD 0 (.tmp 0))) (ev l (c.args.getD 1 (.tmp 0))) := by
  simp only [opD, hc, h1, h2, hi]; rfl
 rw [hD]
 unfold mO
 rw [he, cT, hs, cT, hb, cT, hz, cT]
 split at hr
 ·rename_i n m hsrc
  rw [hsrc, cT]
  unfold c1Z at hr
  split at hr
  ·rename_i k cc hx
   obtain ⟨g1, hq1⟩ := kP hr
   obtain ⟨g2, hq2⟩ := kP hq1
   obtain ⟨g3, hq⟩ := kP hq2
   clear hr hq1 hq2
   obtain rfl : k = 0 := dI g1
   obtain rfl : cc = 0 := dI g2
   have g3 : n * (bytes + 1) ≤ nT := dV g3
   simp only [hx]
   rw [if_pos (by simp [hs0, hzs, g3])]
   rw [kC] at hq
   by_cases hn : n = 0
   ·subst hn
    rw [if_pos (by rfl)] at hq
    obtain ⟨rfl, rfl⟩ := Rs.aK hq
    simp
   ·rw [if_neg (fun e => hn (dI e))] at hq
    obtain ⟨rfl, rfl⟩ := Rs.aM hq
    simp [hn]
  ·rename_i A i e k cc hx
   unfold c2a at hr
   split at hr
   ·rename_i cs ty lo ver hg
    obtain ⟨g2, hr⟩ := kP hr
    obtain ⟨g4, hr⟩ := kP hr
    obtain ⟨g5, hr⟩ := kP hr
    have g2 : (ty == elem || gW P ty == some size) = true := by
     rw [c1G] at g2
     cases hh : (ty == elem) with
     | true => rfl
     | false => rw [hh] at g2; exact g2
    rw [wV] at g4
    have g4 : e = cs.length := by simpa only [decide_eq_true_eq] using g4
    have g5 : lo ≤ e := dV g5
    simp only [hx, hg]
    rw [kC] at hr
    by_cases g3 : i + k * size = e
    ·rw [if_pos (by simpa using g3)] at hr
     obtain ⟨g1, hr⟩ := kP hr
     obtain ⟨rfl, rfl⟩ := Rs.aM hr
     have g1 : (k + n) * (bytes + 1) ≤ nT := dV g1
     have et : (Bool.rec (motive := fun _ => Nat) 2 ver (Nat.beq ty elem)) = (if (ty == elem) = true then ver else 2) := by
      rw [c1G]
      cases hh : (ty == elem) with
      | true => rfl
      | false => rfl
     rw [et, if_pos (by simp only [g2, ff, cS, bne_iff_ne, beq_iff_eq, decide_eq_true_eq]; exact ⟨⟨⟨⟨⟨hs0, g1⟩, by simpa using hzs⟩, g3⟩, g4⟩, g5⟩)]
    ·rw [if_neg (by simpa using g3)] at hr
     rw [kC] at hr
     by_cases hn : n = 0
     ·rw [if_pos (by simpa using hn)] at hr
      exact absurd hr Rs.ar
     ·rw [if_neg (by simpa using hn)] at hr
      obtain ⟨g6, hr⟩ := kP hr
      obtain ⟨rfl, rfl⟩ := Rs.aM hr
      have g6 : i + (k + n) * size ≤ e := dV g6
      rw [if_neg (by simp [g3]), if_pos (by simp only [g2, ff, cS, bne_iff_ne, beq_iff_eq, decide_eq_true_eq]; exact ⟨⟨⟨⟨⟨hs0, hn⟩, by simpa using hzs⟩, g6⟩, g4⟩, g5⟩), g4]
   ·exact absurd hr Rs.ar
  ·exact absurd hr Rs.ar
 ·exact absurd hr Rs.ar
theorem b1y {c : Call} {k : FuncId} (hc : c.callee = .value (.func k)) (hok : (Op.call c).operands.toList.all iE = true) : uM P ⟨dst, .call c, type, pos, after, guard⟩ (.callF k (kE k) (c.args.toList.map iN)) := fun C H0 f l H v H1 hC hk hf hr => by
 have hr : (a3s f (c.args.toList.map iN) fun l => C.fn (kE k) k l H).Is v H1 := hr
 rw [a5t hf] at hr
 obtain ⟨h1 | hx, h2⟩ := hC.fn _ _ _ _ _ _ hk hr rfl
 case inr => exact ⟨.ext hok c (.func k) k #[] #[] rfl hc rfl (by simpa using hx), h2⟩
 obtain ⟨he, v', H', hcall, rfl, rfl⟩ := h1.fn
 exact ⟨.call hok c (.func k) k #[] #[] rfl hc rfl he (by simpa using hcall), h2⟩
theorem b2i {c : Call} {g : Operand} (hc : c.callee = .value g) (hok : (Op.call c).operands.toList.all iE = true) : uM P ⟨dst, .call c, type, pos, after, guard⟩ (.callV (iN g) (c.args.toList.map iN)) := fun C H0 f l H v H1 hC hk hf hr => by
 have hr : (a3s f (c.args.toList.map iN) fun l => a7c C l H (lU f (iN g))).Is v H1 := hr
 rw [a5t hf, jI hf] at hr
 unfold a7c at hr
 split at hr
 ·rename_i k a b hg
  rw [jN, kW] at hr
  obtain ⟨h1 | hx, h2⟩ := hC.fn _ _ _ _ _ _ hk hr rfl
  case inr => exact ⟨.ext hok c g k ⟨a⟩ ⟨b⟩ rfl hc hg (by simpa [xM] using hx), h2⟩
  obtain ⟨he, v', H', hcall, rfl, rfl⟩ := h1.fn
  exact ⟨.call hok c g k ⟨a⟩ ⟨b⟩ rfl hc hg he (by simpa [xM] using hcall), h2⟩
 ·rename_i L a b hg
  obtain ⟨h1, h2⟩ := hC.rd _ _ _ _ _ hk hr
  exact ⟨.round hok c g L _ _ rfl hc hg h1, h2⟩
 ·exact absurd hr Rs.ar
end
set_option maxHeartbeats 1000000 in
theorem a9y {α : Type} (o : Oper) (K : LOp → α) : ∃ lo, uM P o lo ∧ vX P o K = K lo := by
 unfold vX
 rw [kC]
 by_cases hok : o.op.operands.toList.all iE = true
 case neg => rw [if_neg hok]; exact ⟨_, b5P o, rfl⟩
 rw [if_pos hok]
 have gen : ∃ lo, uM P o lo ∧ K (.gen o) = K lo := ⟨_, (b6K o).low hok, rfl⟩
 obtain ⟨dst, op, type, pos, after, guard⟩ := o
 unfold c1I
 cases op with
 | move x => simp only [kL]; exact ⟨_, (c0p x).low hok, rfl⟩
 | assign x => simp only [kL]; exact ⟨_, (c0G x).low hok, rfl⟩
 | pick c a b => simp only [kL]; exact ⟨_, (b2T c a b).low hok, rfl⟩
 | binOp op t x y yt =>
   simp only [kL, kC]
   split
   ·split
    ·rename_i g hg; exact ⟨_, (b7l hg t yt x y).low hok, rfl⟩
    ·exact gen
   ·exact gen
 | load t x =>
   simp only [kL]
   split
   ·rename_i ht
    cases hn : gW P t with
    | none => exact gen
    | some n => rw [oA]; exact ⟨_, (b8f ht hn x).low hok, rfl⟩
   ·rename_i ht; exact ⟨_, (b6m ht x).low hok, rfl⟩
   ·exact gen
 | store t x y =>
   simp only [kL]
   cases hn : gW P t with
   | none => exact gen
   | some n => rw [oA]; exact ⟨_, (b9q hn x y).low hok, rfl⟩
 | fieldAddr s x k =>
   simp only [kL]
   split
   ·rename_i fd hfd
    split
    ·exact gen
    ·rename_i n hn0 hn
     rw [jN]
     exact ⟨_, (b9w hfd hn (fun e => hn0 e) x).low hok, rfl⟩
    ·exact gen
   ·exact gen
 | indexAddr t x i =>
   simp only [kL]
   split
   ·rename_i elem ht
    cases hs : gW P elem with
    | none => exact gen
    | some n => rw [oA]; exact ⟨_, (b7m ht hs x i).low hok, rfl⟩
   ·rename_i n elem ht
    cases hs : gW P elem with
    | none => exact gen
    | some m => rw [oA]; exact ⟨_, (b7q ht hs x i).low hok, rfl⟩
   ·exact gen
 | extract t i => simp only [kL]; rw [jN]; exact ⟨_, (b6e i t).low hok, rfl⟩
 | call c =>
   simp only
   unfold b4q
   split
   ·rename_i k hc
    rw [kW, a2M]
    exact ⟨_, b1y hc hok, rfl⟩
   ·rename_i g _ hc
    rw [kL, a2M]
    exact ⟨_, b2i hc hok, rfl⟩
   ·rename_i hc
    rw [kC]
    split
    ·rename_i h1
     simp only [cS, beq_iff_eq] at h1
     split
     ·rename_i elem ht; rw [kL]; exact ⟨_, (b6A hc h1.1 h1.2 ht).low hok, rfl⟩
     ·rename_i ht; rw [kL]; exact ⟨_, (b2D hc h1.1 h1.2 ht).low hok, rfl⟩
     ·exact gen
    ·exact gen
   ·rename_i hc
    rw [kC]
    split
    ·rename_i h1
     simp only [cS, beq_iff_eq] at h1
     split
     ·rename_i elem he
      cases hs : gW P elem with
      | none => exact gen
      | some size =>
        rw [oA]
        cases hb : nI P elem with
        | none => exact gen
        | some bytes =>
          rw [oA]
          split
          ·rename_i z hz
           rw [kC]
           split
           ·rename_i h2
            simp only [cS, beq_iff_eq, bne_iff_ne] at h2
            rw [jN, kL, kL]
            exact ⟨_, (b7O hc h1.1.1 h1.1.2 h1.2 he hs hb hz h2.1 h2.2).low hok, rfl⟩
           ·exact gen
          ·exact gen
     ·exact gen
    ·exact gen
   ·exact gen
 | _ => exact gen
def DOk (k : Nat) (dst : Option Tmp) (d : Option Pth) : Prop := (dst = none ∧ d = none) ∨ ∃ t, dst = some t ∧ t < k ∧ d = some (kE t)
inductive LowOps (P : Program) (k : Nat) (ops : Array Oper) : List Oper → LOps → Prop
 | nil : LowOps P k ops [] .nil
 | cons {o : Oper} {os : List Oper} {d : Option Pth} {lo : LOp} {r : LOps} (hd : DOk k o.dst d) (ho : uM P o lo) (hg : o.guard = none) (hr : LowOps P k ops os r) : LowOps P k ops (o :: os) (.cons d lo r)
 | gcons {o : Oper} {os : List Oper} {d : Option Pth} {lo : LOp} {r : LOps} {j t : Nat} {w : Bool} (hd : DOk k o.dst d) (ho : uM P o lo) (hg : o.guard = some (j, w)) (ht : (ops[j]?).bind (·.dst) = some t) (htk : t < k) (hr : LowOps P k ops os r) : LowOps P k ops (o :: os) (.gcons (kE t) w d lo r)
def GOk (ops : Array Oper) (o : Oper) (g : Option (Pth × Bool)) : Prop := (o.guard = none ∧ g = none) ∨ ∃ j w t, o.guard = some (j, w) ∧ (ops[j]?).bind (·.dst) = some t ∧ g = some (kE t, w)
theorem GOk.runs {ops : Array Oper} {o : Oper} {g : Option (Pth × Bool)} (h : GOk ops o g) {f : Fr} {l : List Value} (hf : FAg f l) (hw : Region.wanted o (iM ops l) = true) : b4f f g = true := by
 rcases h with ⟨_, rfl⟩ | ⟨j, w, t, hg, ht, rfl⟩
 ·rfl
 ·simp only [Region.wanted, hg, iM, ht] at hw
  show isB (mY (kE t) f) w = true
  rw [hf t, nM, cW]
  cases hl : l[t]? with
  | none => rw [hl] at hw; simp at hw
  | some v =>
    rw [hl] at hw
    cases v <;> simp at hw
    subst hw
    rename_i b
    cases b <;> rfl
inductive LowTab (P : Program) (ops : Array Oper) : List (Nat × Nat) → List (Nat × Option Nat × Option (Pth × Bool) × LOp) → Prop
 | nil : LowTab P ops [] []
 | cons {i m : Nat} {o : Oper} {lo : LOp} {tab : List (Nat × Nat)} {t : List (Nat × Option Nat × Option (Pth × Bool) × LOp)} {g : Option (Pth × Bool)} (ho : ops[i]? = some o) (hgd : GOk ops o g) (hl : uM P o lo) (hr : LowTab P ops tab t) :
    LowTab P ops ((i, m) :: tab) ((ops.size - 1 - i, if m < ops.size then some (ops.size - 1 - m) else none, g, lo) :: t)
inductive Low (P : Program) (k : Nat) : Code → LCode → Prop
 | bad (c : Code) : Low P k c .bad
 | skip : Low P k .skip .skip
 | label (t : Nat) : Low P k (.label t) .skip
 | reg {id : Nat} {ops : Array Oper} {d : Bool} {lo : LOps} (h : LowOps P k ops ops.toList lo) (hd : d = true → mB P ops = some []) : Low P k (.region id ops d) (.reg lo)
 | drw {id : Nat} {ops : Array Oper} {lo : LOps} {tab : List (Nat × Nat)} {t : List (Nat × Option Nat × Option (Pth × Bool) × LOp)} (h : LowOps P k ops ops.toList lo) (ht : mB P ops = some tab) (hl : LowTab P ops tab t) : Low P k (.region id ops true) (.drw lo t)
 | seq {a b : Code} {A B : LCode} (ha : Low P k a A) (hb : Low P k b B) : Low P k (.seq a b) (.seq A B)
 | cond {c : Operand} {x y : Code} {X Y : LCode} (hc : iE c = true) (hx : Low P k x X) (hy : Low P k y Y) : Low P k (.cond c x y) (.cond (iN c) X Y)
 | block {id : Nat} {b : Code} {B : LCode} (hb : Low P k b B) : Low P k (.block id b) (.block id B)
 | loop {b : Code} {B : LCode} (hb : Low P k b B) : Low P k (.loop b) (.loop B)
 | exit (id : Nat) : Low P k (.exit id) (.exit id)
 | ret : Low P k .ret .ret
 | range {g : Operand} {ps : Array Tmp} {assign body : Code} {A B : LCode} (hg : iE g = true) (hps : ∀ t ∈ ps.toList, t < k) (ha : Low P k assign A) (hb : Low P k body B) :
    Low P k (.rangeFunc g ps assign body) (.range (iN g) ((List.range k).map kE) (ps.toList.map kE) ps assign body A B)
section
variable {α : Type}
theorem b2Z (k : Nat) (dst : Option Tmp) (no : α) (K : Option Pth → α) : (∃ d, DOk k dst d ∧ a6A k dst no K = K d) ∨ a6A k dst no K = no := by
 cases dst with
 | none => exact .inl ⟨none, .inl ⟨rfl, rfl⟩, rfl⟩
 | some t =>
   simp only [a6A, kC]
   split
   ·rename_i h
    rw [kW]
    rw [blt_eq] at h
    exact .inl ⟨_, .inr ⟨t, rfl, by simpa using h, rfl⟩, rfl⟩
   ·exact .inr rfl
theorem a1H (k : Nat) (ops : Array Oper) (l : List Oper) (K : LOps → α) (no : α) : (∃ L, LowOps P k ops l L ∧ tH P k ops l K no = K L) ∨ tH P k ops l K no = no := by
 induction l generalizing K with
 | nil => exact .inl ⟨_, .nil, rfl⟩
 | cons o l ih =>
   let K2 : Option Pth → LOp → α := fun d o' => match o.guard with
    | none => tH P k ops l (fun r => K (.cons d o' r)) no
    | some (j, w) => match (ops[j]?).bind (·.dst) with
      | some t => mX (Nat.blt t k) no (lB (kE t) fun p => zF w fun w => tH P k ops l (fun r => K (.gcons p w d o' r)) no)
      | none => no
   have e : tH P k ops (o :: l) K no = a6A k o.dst no fun d => vX P o fun o' => K2 d o' := rfl
   rw [e]
   rcases b2Z k o.dst no (fun d => vX P o fun o' => K2 d o') with ⟨d, hd, h1⟩ | h1
   ·rw [h1]
    obtain ⟨lo, hlo, h2⟩ := a9y (P := P) o (fun o' => K2 d o')
    rw [h2]
    simp only [K2]
    split
    ·rename_i hg
     rcases ih (fun r => K (.cons d lo r)) with ⟨L, hL, h3⟩ | h3
     ·exact .inl ⟨_, .cons hd hlo hg hL, h3⟩
     ·exact .inr h3
    ·rename_i j w hg
     split
     ·rename_i t ht
      rw [kC]
      split
      ·rename_i htk
       rw [kW, tY]
       rw [blt_eq] at htk
       rcases ih (fun r => K (.gcons (kE t) w d lo r)) with ⟨L, hL, h3⟩ | h3
       ·exact .inl ⟨_, .gcons hd hlo hg ht (by simpa using htk) hL, h3⟩
       ·exact .inr h3
      ·exact .inr rfl
     ·exact .inr rfl
   ·exact .inr h1
theorem c0l (k : Nat) (ops : Array Oper) (o : Oper) (no : α) (K : Option (Pth × Bool) → α) : (∃ g, GOk ops o g ∧ loG k ops o.guard no K = K g) ∨ loG k ops o.guard no K = no := by
 cases hg : o.guard with
 | none => exact .inl ⟨none, .inl ⟨hg, rfl⟩, rfl⟩
 | some x =>
   obtain ⟨j, w⟩ := x
   unfold loG
   cases ht : (ops[j]?).bind (·.dst) with
   | none => exact .inr (by simp only [ht])
   | some t =>
     simp only [ht, kC]
     split
     ·refine .inl ⟨some (kE t, w), .inr ⟨j, w, t, hg, ht, rfl⟩, ?_⟩
      rw [kW, tY]
     ·exact .inr rfl
theorem b3y (k : Nat) (ops : Array Oper) (tab : List (Nat × Nat)) (K : List (Nat × Option Nat × Option (Pth × Bool) × LOp) → α) (no : α) : (∃ t, LowTab P ops tab t ∧ sG P k ops ops.size tab K no = K t) ∨ sG P k ops ops.size tab K no = no := by
 induction tab generalizing K with
 | nil => exact .inl ⟨_, .nil, rfl⟩
 | cons x tab ih =>
   obtain ⟨i, m⟩ := x
   cases ho : ops[i]? with
   | none =>
     refine .inr ?_
     show (match ops[i]? with
      | some o => _
      | none => no) = no
     rw [ho]
   | some o =>
     let K2 : Option (Pth × Bool) → LOp → α := fun g o' => jR (ops.size - 1 - i) fun i => mX (Nat.blt m ops.size) (sG P k ops ops.size tab (fun l => K ((i, none, g, o') :: l)) no) (jR (ops.size - 1 - m) fun m => sG P k ops ops.size tab (fun l => K ((i, some m, g, o') :: l)) no)
     have e : sG P k ops ops.size ((i, m) :: tab) K no = loG k ops o.guard no fun g => vX P o fun o' => K2 g o' := by
      show (match ops[i]? with
       | some o => loG k ops o.guard no fun g => vX P o fun o' => K2 g o'
       | none => no) = _
      rw [ho]
     rw [e]
     rcases c0l k ops o no (fun g => vX P o fun o' => K2 g o') with ⟨g, hgd, h1⟩ | h1
     ·rw [h1]
      obtain ⟨lo, hlo, h2⟩ := a9y (P := P) o (fun o' => K2 g o')
      rw [h2]
      show (∃ t, _ ∧ jR (ops.size - 1 - i) (fun i => mX (Nat.blt m ops.size) (sG P k ops ops.size tab (fun l => K ((i, none, g, lo) :: l)) no) (jR (ops.size - 1 - m) fun m => sG P k ops ops.size tab (fun l => K ((i, some m, g, lo) :: l)) no)) = K t) ∨ jR (ops.size - 1 - i) (fun i => mX (Nat.blt m ops.size) (sG P k ops ops.size tab (fun l => K ((i, none, g, lo) :: l)) no) (jR (ops.size - 1 - m) fun m => sG P k ops ops.size tab (fun l => K ((i, some m, g, lo) :: l)) no)) = no
      rw [jN, kC, jN, blt_eq]
      by_cases hm : m < ops.size
      ·rw [if_pos (by simpa using hm)]
       rcases ih (fun l => K ((ops.size - 1 - i, some (ops.size - 1 - m), g, lo) :: l)) with ⟨t, ht, h3⟩ | h3
       ·have := LowTab.cons (m := m) ho hgd hlo ht
        rw [if_pos hm] at this
        exact .inl ⟨_, this, h3⟩
       ·exact .inr h3
      ·rw [if_neg (by simpa using hm)]
       rcases ih (fun l => K ((ops.size - 1 - i, none, g, lo) :: l)) with ⟨t, ht, h3⟩ | h3
       ·have := LowTab.cons (m := m) ho hgd hlo ht
        rw [if_neg hm] at this
        exact .inl ⟨_, this, h3⟩
       ·exact .inr h3
     ·exact .inr h1
theorem b1G (k : Nat) (l : List Tmp) (K : List Pth → α) (no : α) : ((∀ t ∈ l, t < k) ∧ vG k l K no = K (l.map kE)) ∨ vG k l K no = no := by
 induction l generalizing K with
 | nil => exact .inl ⟨by simp, rfl⟩
 | cons t l ih =>
   show _ ∨ mX (Nat.blt t k) no (lB (kE t) fun p => vG k l (fun l => K (p :: l)) no) = no
   have e : vG k (t :: l) K no = mX (Nat.blt t k) no (lB (kE t) fun p => vG k l (fun l => K (p :: l)) no) := rfl
   rw [e, kC, kW, blt_eq]
   by_cases h : t < k
   ·rw [if_pos (by simpa using h)]
    rcases ih (fun l => K (kE t :: l)) with ⟨h1, h2⟩ | h2
    ·exact .inl ⟨by simpa using ⟨h, h1⟩, h2⟩
    ·exact .inr h2
   ·rw [if_neg (by simpa using h)]; exact .inr rfl
theorem b1o (k : Nat) (c : Code) (K : LCode → α) : ∃ C, Low P k c C ∧ mH P k c K = K C := by
 induction c generalizing K with
 | skip => exact ⟨_, .skip, rfl⟩
 | region id ops d =>
   cases d with
   | false =>
     show ∃ C, _ ∧ tH P k ops ops.toList (fun l => K (.reg l)) (K .bad) = K C
     rcases a1H (P := P) k ops ops.toList (fun l => K (.reg l)) (K .bad) with ⟨L, hL, h⟩ | h
     ·exact ⟨_, .reg hL (fun h => by cases h), h⟩
     ·exact ⟨_, .bad _, h⟩
   | true =>
     show ∃ C, _ ∧ (match mB P ops with
      | some [] => tH P k ops ops.toList (fun l => K (.reg l)) (K .bad)
      | some tab => tH P k ops ops.toList (fun l => sG P k ops ops.size tab (fun t => K (.drw l t)) (K .bad)) (K .bad)
      | none => K .bad) = K C
     split
     ·rename_i hd
      rcases a1H (P := P) k ops ops.toList (fun l => K (.reg l)) (K .bad) with ⟨L, hL, h⟩ | h
      ·exact ⟨_, .reg hL (fun _ => hd), h⟩
      ·exact ⟨_, .bad _, h⟩
     ·rename_i tab _ hd
      rcases a1H (P := P) k ops ops.toList (fun l => sG P k ops ops.size tab (fun t => K (.drw l t)) (K .bad)) (K .bad) with ⟨L, hL, h⟩ | h
      ·rw [h]
       rcases b3y (P := P) k ops tab (fun t => K (.drw L t)) (K .bad) with ⟨t, ht, h2⟩ | h2
       ·exact ⟨_, .drw hL hd ht, h2⟩
       ·exact ⟨_, .bad _, h2⟩
      ·exact ⟨_, .bad _, h⟩
     ·exact ⟨_, .bad _, rfl⟩
 | seq a b iha ihb =>
   show ∃ C, _ ∧ mH P k a (fun a => mH P k b fun b => K (.seq a b)) = K C
   obtain ⟨A, hA, h1⟩ := iha (fun a => mH P k b fun b => K (.seq a b))
   obtain ⟨B, hB, h2⟩ := ihb (fun b => K (.seq A b))
   exact ⟨_, .seq hA hB, h1.trans h2⟩
 | cond c x y ihx ihy =>
   show ∃ C, _ ∧ mX (iE c) (K .bad) (lC c fun c => mH P k x fun x => mH P k y fun y => K (.cond c x y)) = K C
   rw [kC]
   split
   ·rename_i hc
    rw [kL]
    obtain ⟨X, hX, h1⟩ := ihx (fun x => mH P k y fun y => K (.cond (iN c) x y))
    obtain ⟨Y, hY, h2⟩ := ihy (fun y => K (.cond (iN c) X y))
    exact ⟨_, .cond hc hX hY, h1.trans h2⟩
   ·exact ⟨_, .bad _, rfl⟩
 | block id b ih =>
   show ∃ C, _ ∧ jR id (fun id => mH P k b fun b => K (.block id b)) = K C
   rw [jN]
   obtain ⟨B, hB, h1⟩ := ih (fun b => K (.block id b))
   exact ⟨_, .block hB, h1⟩
 | loop b ih =>
   show ∃ C, _ ∧ mH P k b (fun b => K (.loop b)) = K C
   obtain ⟨B, hB, h1⟩ := ih (fun b => K (.loop b))
   exact ⟨_, .loop hB, h1⟩
 | rangeFunc g ps assign body iha ihb =>
   show ∃ C, _ ∧ mX (iE g) (K .bad) (lC g fun g' => b0H k fun pp => vG k ps.toList (fun q => mH P k assign fun a => mH P k body fun b => K (.range g' pp q ps assign body a b)) (K .bad)) = K C
   rw [kC]
   split
   ·rename_i hg
    rw [kL, a9r]
    rcases b1G k ps.toList (fun q => mH P k assign fun a => mH P k body fun b => K (.range (iN g) ((List.range k).map kE) q ps assign body a b)) (K .bad) with ⟨hps, h⟩ | h
    ·obtain ⟨A, hA, h1⟩ := iha (fun a => mH P k body fun b => K (.range (iN g) ((List.range k).map kE) (ps.toList.map kE) ps assign body a b))
     obtain ⟨B, hB, h2⟩ := ihb (fun b => K (.range (iN g) ((List.range k).map kE) (ps.toList.map kE) ps assign body A b))
     exact ⟨_, .range hg hps hA hB, h.trans (h1.trans h2)⟩
    ·exact ⟨_, .bad _, h⟩
   ·exact ⟨_, .bad _, rfl⟩
 | exit id =>
   show ∃ C, _ ∧ jR id (fun id => K (.exit id)) = K C
   rw [jN]
   exact ⟨_, .exit id, rfl⟩
 | label t => exact ⟨_, .label t, rfl⟩
 | ret => exact ⟨_, .ret, rfl⟩
 | scope b _ => exact ⟨_, .bad _, rfl⟩
 | goto t => exact ⟨_, .bad _, rfl⟩
 | refuse w => exact ⟨_, .bad _, rfl⟩
end
theorem tZ {α : Type} {k : Nat} {f : Fr} {l : List Value} (h : FRel k f l) {dst : Option Tmp} {d : Option Pth} (hd : DOk k dst d) (v : Value) (K : Fr → α) : ∃ f', sS d v f K = K f' ∧ FRel k f' (put l dst v) := by
 rcases hd with ⟨rfl, rfl⟩ | ⟨t, rfl, ht, rfl⟩
 ·exact ⟨f, rfl, h⟩
 ·exact ⟨b4r f t v, rL v (kE t) f K, h.put ht v⟩
theorem wH {ops : Array Oper} {l : List Value} {j t : Nat} (ht : (ops[j]?).bind (·.dst) = some t) (htl : t < l.length) (w : Bool) : (iM ops l j == some w) = isB (get l t) w := by
 have hg : get l t = l[t] := by rw [nM]; simp [htl]
 unfold iM
 rw [ht, hg]
 simp only [dc htl]
 cases hv : l[t] <;> simp [isB]
 rename_i b
 cases b <;> cases w <;> rfl
theorem b7i {k : Nat} {ops : Array Oper} {C : Calls'} {H0 : Heap} (hC : CallsOk P C H0) {os : List Oper} {lo : LOps} (hlo : LowOps P k ops os lo) : ∀ {i : Nat}, ops.toList.drop i = os → ∀ {f : Fr} {l : List Value} {H : Heap} {f1 : Fr} {H1 : Heap},
 FRel k f l → LK H0 H → xO P C lo f H = .ok f1 H1 → ∃ l1, FRel k f1 l1 ∧ OpsR P ops (List.range' i os.length) l H l1 H1 ∧ LK H H1 := by
 induction hlo with
 | nil =>
   intro i _ f l H f1 H1 hf _ h
   injection h with h1 h2
   subst h1 h2
   exact ⟨l, hf, .nil l H, .refl H⟩
 | @cons o os d lo r hd ho hg hr ih =>
   intro i hi f l H f1 H1 hf hk h
   have hio : ops[i]? = some o := by
    have : (ops.toList.drop i)[0]? = some o := by rw [hi]; rfl
    rw [dr] at this
    simpa using this
   have hi' : ops.toList.drop (i + 1) = os := by rw [← fh, hi]; rfl
   have hw : Region.wanted o (iM ops l) = true := by simp [Region.wanted, hg]
   have h : a9N Rf.no d f (xO P C r) (opF P C lo f H) = .ok f1 H1 := h
   have key : ∀ v H2, (opF P C lo f H).Is v H2 → (sS d v f fun f => xO P C r f H2) = .ok f1 H1 → ∃ l1, FRel k f1 l1 ∧ OpsR P ops (List.range' i (o :: os).length) l H l1 H1 ∧ LK H H1 := by
    intro v H2 hop hrest
    obtain ⟨hs, hk2⟩ := ho C H0 f l H v H2 hC hk hf.2 hop
    obtain ⟨f', e, hf'⟩ := tZ hf hd v (fun f => xO P C r f H2)
    rw [e] at hrest
    obtain ⟨l1, h1, h2, h3⟩ := ih hi' hf' (hk.trans hk2) hrest
    exact ⟨l1, h1, .step hio hw hs h2, hk2.trans h3⟩
   cases hop : opF P C lo f H with
   | no => rw [hop] at h; cases h
   | ok v H2 => rw [hop] at h; exact key v H2 (.inl hop) h
   | th v H2 =>
     rw [hop] at h
     have h : wQ v (fun v => mS H2 fun H2 => sS d v f fun f => xO P C r f H2) = .ok f1 H1 := h
     rw [wN, lI] at h
     exact key v H2 (.inr hop) h
 | @gcons o os d lo r j t w hd ho hg ht htk hr ih =>
   intro i hi f l H f1 H1 hf hk h
   have hio : ops[i]? = some o := by
    have : (ops.toList.drop i)[0]? = some o := by rw [hi]; rfl
    rw [dr] at this
    simpa using this
   have hi' : ops.toList.drop (i + 1) = os := by rw [← fh, hi]; rfl
   have hwi : Region.wanted o (iM ops l) = isB (mY (kE t) f) w := by
    simp only [Region.wanted, hg]
    rw [wH ht (by rw [hf.1]; exact htk) w, hf.2 t]
   have h : mX (isB (mY (kE t) f) w) (sS d undef f fun f => xO P C r f H) (a9N Rf.no d f (xO P C r) (opF P C lo f H)) = .ok f1 H1 := h
   rw [kC] at h
   split at h
   ·rename_i hb
    have key : ∀ v H2, (opF P C lo f H).Is v H2 → (sS d v f fun f => xO P C r f H2) = .ok f1 H1 → ∃ l1, FRel k f1 l1 ∧ OpsR P ops (List.range' i (o :: os).length) l H l1 H1 ∧ LK H H1 := by
     intro v H2 hop hrest
     obtain ⟨hs, hk2⟩ := ho C H0 f l H v H2 hC hk hf.2 hop
     obtain ⟨f', e, hf'⟩ := tZ hf hd v (fun f => xO P C r f H2)
     rw [e] at hrest
     obtain ⟨l1, h1, h2, h3⟩ := ih hi' hf' (hk.trans hk2) hrest
     exact ⟨l1, h1, .step hio (by rw [hwi, hb]) hs h2, hk2.trans h3⟩
    cases hop : opF P C lo f H with
    | no => rw [hop] at h; cases h
    | ok v H2 => rw [hop] at h; exact key v H2 (.inl hop) h
    | th v H2 =>
      rw [hop] at h
      have h : wQ v (fun v => mS H2 fun H2 => sS d v f fun f => xO P C r f H2) = .ok f1 H1 := h
      rw [wN, lI] at h
      exact key v H2 (.inr hop) h
   ·rename_i hb
    obtain ⟨f', e, hf'⟩ := tZ hf hd undef (fun f => xO P C r f H)
    rw [e] at h
    obtain ⟨l1, h1, h2, h3⟩ := ih hi' hf' hk h
    exact ⟨l1, h1, .past hio (by rw [hwi]; simpa using hb) h2, h3⟩
structure Noted (P : Program) (k : Nat) (ops : Array Oper) (H : Heap) (i n : Nat) (T : Nat → List Value × Heap) (val : Nat → Value) (tr0 tr : List (Fr × Heap × Value)) : Prop where
 step : ∀ j, i ≤ j → j < i + n → uU P ops j (T j) (T (j + 1)) (val j)
 new : ∀ j, i ≤ j → j < i + n → ∃ g, tr[i + n - 1 - j]? = some (g, (T j).2, val j) ∧ FAg g (T j).1
 old : ∀ m, tr[n + m]? = tr0[m]?
 lk : ∀ j, i ≤ j → j ≤ i + n → LK H (T j).2
theorem b5w {k : Nat} {ops : Array Oper} {C : Calls'} {H0 : Heap} (hC : CallsOk P C H0) {os : List Oper} {lo : LOps} (hlo : LowOps P k ops os lo) : ∀ {i : Nat}, ops.toList.drop i = os → ∀ {tr0 tr : List (Fr × Heap × Value)} {f : Fr} {l : List Value} {H : Heap} {f1 : Fr} {H1 : Heap},
 FRel k f l → LK H0 H → pZ P C lo tr0 f H = .ok tr f1 H1 → ∃ T val l1, T i = (l, H) ∧ T (i + os.length) = (l1, H1) ∧ FRel k f1 l1 ∧ Noted P k ops H i os.length T val tr0 tr := by
 have more : ∀ {i n : Nat} {o : Oper} {tr0 tr : List (Fr × Heap × Value)} {f : Fr} {l : List Value} {H : Heap} {v : Value} {l2 : List Value} {H2 : Heap} {l1 : List Value} {H1 : Heap} {f1 : Fr}, FRel k f l → uU P ops i (l, H) (l2, H2) v → LK H H2 →
  (∃ T val l1, T (i + 1) = (l2, H2) ∧ T (i + 1 + n) = (l1, H1) ∧ FRel k f1 l1 ∧ Noted P k ops H2 (i + 1) n T val ((f, H, v) :: tr0) tr) →
  ∃ T val l1, T i = (l, H) ∧ T (i + (n + 1)) = (l1, H1) ∧ FRel k f1 l1 ∧ Noted P k ops H i (n + 1) T val tr0 tr := by
  intro i n o tr0 tr f l H v l2 H2 _ H1 f1 hf hst hk ⟨T, val, l1, h1, h2, h3, hN⟩
  refine ⟨fun j => if j ≤ i then (l, H) else T j, fun j => if j ≤ i then v else val j, l1, by simp, ?_, h3, ?_⟩
  ·show (if i + (n + 1) ≤ i then (l, H) else T (i + (n + 1))) = _
   rw [if_neg (by omega), ← h2]; congr 1; omega
  ·refine ⟨fun j hj hn => ?_, fun j hj hn => ?_, fun m => ?_, fun j hj hn => ?_⟩
   ·by_cases he : j = i
    ·subst he
     simp only [da, if_true]
     rw [if_neg (by omega), h1]
     exact hst
    ·rw [if_neg (by omega), if_neg (by omega), if_neg (by omega)]
     exact hN.step j (by omega) (by omega)
   ·by_cases he : j = i
    ·subst he
     simp only [da, if_true]
     refine ⟨f, ?_, hf.2⟩
     have := hN.old 0
     rw [show j + (n + 1) - 1 - j = n + 0 by omega, this]; rfl
    ·rw [if_neg (by omega), if_neg (by omega)]
     obtain ⟨g, hg, hag⟩ := hN.new j (by omega) (by omega)
     exact ⟨g, by rw [← hg]; congr 1; omega, hag⟩
   ·have := hN.old (m + 1)
    rw [show n + 1 + m = n + (m + 1) by omega, this]; rfl
   ·by_cases he : j = i
    ·subst he; simp only [da, if_true]; exact .refl H
    ·rw [if_neg (by omega)]; exact hk.trans (hN.lk j (by omega) (by omega))
 induction hlo with
 | nil =>
   intro i _ tr0 tr f l H f1 H1 hf _ h
   injection h with h1 h2 h3
   subst h1 h2 h3
   exact ⟨fun _ => (l, H), fun _ => undef, l, rfl, rfl, hf, fun j _ h => absurd h (by simp; omega), fun j _ h => absurd h (by simp; omega), fun m => by simp, fun _ _ _ => .refl H⟩
 | @cons o os d lo r hd ho hg hr ih =>
   intro i hi tr0 tr f l H f1 H1 hf hk h
   have hio : ops[i]? = some o := by
    have : (ops.toList.drop i)[0]? = some o := by rw [hi]; rfl
    rw [dr] at this
    simpa using this
   have hi' : ops.toList.drop (i + 1) = os := by rw [← fh, hi]; rfl
   have hw : Region.wanted o (iM ops l) = true := by simp [Region.wanted, hg]
   have h : a9W tr0 f H d (pZ P C r) (opF P C lo f H) = .ok tr f1 H1 := h
   have key : ∀ v H2, (opF P C lo f H).Is v H2 → (sS d v f fun f2 => pZ P C r ((f, H, v) :: tr0) f2 H2) = .ok tr f1 H1 → ∃ T val l1, T i = (l, H) ∧ T (i + (o :: os).length) = (l1, H1) ∧ FRel k f1 l1 ∧ Noted P k ops H i (o :: os).length T val tr0 tr := by
    intro v H2 hop hrest
    obtain ⟨hs, hk2⟩ := ho C H0 f l H v H2 hC hk hf.2 hop
    obtain ⟨f', e, hf'⟩ := tZ hf hd v (fun f2 => pZ P C r ((f, H, v) :: tr0) f2 H2)
    rw [e] at hrest
    have := ih hi' hf' (hk.trans hk2) hrest
    exact more (o := o) (l1 := l) hf ⟨o, hio, rfl, .inl ⟨hw, hs⟩⟩ hk2 this
   cases hop : opF P C lo f H with
   | no => rw [hop] at h; cases h
   | ok v H2 => rw [hop] at h; exact key v H2 (.inl hop) h
   | th v H2 =>
     rw [hop] at h
     have h : wQ v (fun v => mS H2 fun H2 => sS d v f fun f2 => pZ P C r ((f, H, v) :: tr0) f2 H2) = .ok tr f1 H1 := h
     rw [wN, lI] at h
     exact key v H2 (.inr hop) h
 | @gcons o os d lo r j t w hd ho hg ht htk hr ih =>
   intro i hi tr0 tr f l H f1 H1 hf hk h
   have hio : ops[i]? = some o := by
    have : (ops.toList.drop i)[0]? = some o := by rw [hi]; rfl
    rw [dr] at this
    simpa using this
   have hi' : ops.toList.drop (i + 1) = os := by rw [← fh, hi]; rfl
   have hwi : Region.wanted o (iM ops l) = isB (mY (kE t) f) w := by
    simp only [Region.wanted, hg]
    rw [wH ht (by rw [hf.1]; exact htk) w, hf.2 t]
   have h : mX (isB (mY (kE t) f) w) (sS d undef f fun f2 => pZ P C r ((f, H, undef) :: tr0) f2 H) (a9W tr0 f H d (pZ P C r) (opF P C lo f H)) = .ok tr f1 H1 := h
   rw [kC] at h
   split at h
   ·rename_i hb
    have key : ∀ v H2, (opF P C lo f H).Is v H2 → (sS d v f fun f2 => pZ P C r ((f, H, v) :: tr0) f2 H2) = .ok tr f1 H1 → ∃ T val l1, T i = (l, H) ∧ T (i + (o :: os).length) = (l1, H1) ∧ FRel k f1 l1 ∧ Noted P k ops H i (o :: os).length T val tr0 tr := by
     intro v H2 hop hrest
     obtain ⟨hs, hk2⟩ := ho C H0 f l H v H2 hC hk hf.2 hop
     obtain ⟨f', e, hf'⟩ := tZ hf hd v (fun f2 => pZ P C r ((f, H, v) :: tr0) f2 H2)
     rw [e] at hrest
     exact more (o := o) (l1 := l) hf ⟨o, hio, rfl, .inl ⟨by rw [hwi, hb], hs⟩⟩ hk2 (ih hi' hf' (hk.trans hk2) hrest)
    cases hop : opF P C lo f H with
    | no => rw [hop] at h; cases h
    | ok v H2 => rw [hop] at h; exact key v H2 (.inl hop) h
    | th v H2 =>
      rw [hop] at h
      have h : wQ v (fun v => mS H2 fun H2 => sS d v f fun f2 => pZ P C r ((f, H, v) :: tr0) f2 H2) = .ok tr f1 H1 := h
      rw [wN, lI] at h
      exact key v H2 (.inr hop) h
   ·rename_i hb
    obtain ⟨f', e, hf'⟩ := tZ hf hd undef (fun f2 => pZ P C r ((f, H, undef) :: tr0) f2 H)
    rw [e] at h
    exact more (o := o) (l1 := l) hf ⟨o, hio, rfl, .inr ⟨by rw [hwi]; simpa using hb, rfl, rfl⟩⟩ (.refl H) (ih hi' hf' hk h)
theorem b0d {α : Type} (p : α → Bool) (l : List α) : b3Q p l = l.all p := by
 induction l with
 | nil => rfl
 | cons x l ih =>
   show mX (p x) false (b3Q p l) = _
   rw [kC, ih, fc]
   cases p x <;> rfl
theorem b6X {v : Value} {r : Rs} (h : b6b v r = true) : ∃ H, r.Is v H := by
 cases r with
 | no => cases h
 | ok w H => exact ⟨H, .inl (by rw [b2S (show veq w v = true from h)])⟩
 | th w H => exact ⟨H, .inr (by rw [b2S (show veq w v = true from h)])⟩
theorem LowTab.get {ops : Array Oper} {tab : List (Nat × Nat)} {t : List (Nat × Option Nat × Option (Pth × Bool) × LOp)} (h : LowTab P ops tab t) {i m : Nat} (hm : (i, m) ∈ tab) : ∃ o lo g, ops[i]? = some o ∧ GOk ops o g ∧ uM P o lo ∧ (ops.size - 1 - i, (if m < ops.size then some (ops.size - 1 - m) else none), g, lo) ∈ t := by
 induction h with
 | nil => cases hm
 | @cons i2 m2 o lo tab t g ho hgd hl hr ih =>
   rcases dJ.1 hm with he | hm
   ·injection he with h1 h2
    subst h1 h2
    exact ⟨o, lo, g, ho, hgd, hl, by simp⟩
   ·obtain ⟨o', lo', g', h1, h0, h2, h3⟩ := ih hm
    exact ⟨o', lo', g', h1, h0, h2, dN _ h3⟩
theorem a8u {fl : Fl} {ops : Array Oper} {i m : Nat} (h : (i, m) ∈ lR fl ops) {o : Oper} (ho : ops[i]? = some o) : mQ o.op = true := by
 unfold lR at h
 simp only [ey] at h
 obtain ⟨⟨x, j⟩, hx, h⟩ := h
 dsimp only at h
 split at h
 ·rename_i hr
  simp only [dp] at h
  obtain ⟨m', _, e⟩ := h
  injection e with e1 e2
  subst e1
  have := fY.1 hx
  have : ops[j]? = some x := by simpa using this
  rw [this] at ho
  injection ho with ho
  subst ho
  exact hr
 ·cases h
theorem b7a (jU : P.follows .mixedOrders = true) {k id : Nat} {ops : Array Oper} {C : Calls'} {H : Heap} (hC : CallsOk P C H) {lo : LOps} {tab : List (Nat × Nat)} {t : List (Nat × Option Nat × Option (Pth × Bool) × LOp)} (hlo : LowOps P k ops ops.toList lo) (htab : mB P ops = some tab) (hl : LowTab P ops tab t)
 {f : Fr} {l : List Value} {e : Ex} {f1 : Fr} {H1 : Heap} (hf : FRel k f l) (h : b8I P C t (pZ P C lo [] f H) = .ok e f1 H1) : ∃ l1, e = .normal ∧ FRel k f1 l1 ∧ Sim P (.region id ops true) l H .normal l1 H1 ∧ LK H H1 := by
 cases hr : pZ P C lo [] f H with
 | no => rw [hr] at h; cases h
 | ok tr f2 H2 =>
   rw [hr] at h
   have h : mX (b3Q (b3Z P C tr H2) t) Rc.no (.ok .normal f2 H2) = .ok e f1 H1 := h
   rw [kC] at h
   split at h
   case isFalse => cases h
   rename_i hall
   injection h with h1 h2 h3
   subst h1 h2 h3
   obtain ⟨T, val, l1, hT0, hTn, hf1, hN⟩ := b5w hC hlo (i := 0) rfl hf (.refl H) hr
   rw [fi, fU] at hTn
   rw [fi] at hN
   have hlk : LK H H2 := by have := hN.lk ops.size (eI _) (by omega); rwa [hTn] at this
   refine ⟨l1, rfl, hf1, ?_, hlk⟩
   have := Sim.draw jU (id := id) htab (T := T) (val := val) ⟨fun j hj => hN.step j (eI _) (by omega)⟩ ?_
   ·rw [hT0, hTn] at this; exact this
   ·intro i m o hm ho hw
    obtain ⟨o', lo', gd, ho', hgd, hlow, hmem⟩ := hl.get hm
    rw [ho] at ho'
    obtain rfl := cR ho'
    rw [b0d, dg] at hall
    have hrd := hall _ hmem
    have hi : i < ops.size := (cY.1 ho).1
    obtain ⟨g, hg, hag⟩ := hN.new i (eI _) (by omega)
    have hg : tr[ops.size - 1 - i]? = some (g, (T i).2, val i) := by rw [← hg]; congr 1; omega
    have hread : mQ o.op = true := by
     obtain ⟨fl, _, rfl⟩ := oX htab
     exact a8u hm ho
    have fin : ∀ H3, LK H H3 → b6b (val i) (opF P C lo' g H3) = true → ∃ H4, opD P o (T i).1 H3 = some (val i, H4) := by
     intro H3 hk3 hq
     obtain ⟨H4, h4⟩ := b6X hq
     obtain ⟨hs, _⟩ := hlow C H g (T i).1 H3 (val i) H4 hC hk3 hag h4
     refine ⟨H4, hs.opD fun c fv hc hv => ?_⟩
     rw [hc] at hread
     simp [mQ, hv] at hread
    unfold b3Z at hrd
    simp only [xG, hg, hgd.runs hag hw] at hrd
    rw [kC, if_pos rfl] at hrd
    by_cases hms : m < ops.size
    ·rw [if_pos hms] at hrd
     obtain ⟨g2, hg2, _⟩ := hN.new m (eI _) (by omega)
     have hg2 : tr[ops.size - 1 - m]? = some (g2, (T m).2, val m) := by rw [← hg2]; congr 1; omega
     simp only [hg2] at hrd
     exact fin _ (hN.lk m (eI _) (by omega)) hrd
    ·rw [if_neg hms] at hrd
     have hle : m = ops.size := by
      obtain ⟨fl, _, rfl⟩ := oX htab
      have := a1e hm
      omega
     subst hle
     have := fin H2 hlk hrd
     rw [hTn]; exact this
def tS (P : Program) : List ResultVar → List LRes → Prop
 | [], [] => True
 | r :: rs, l :: ls => (match r, l with
   | .tmp t, .t p => p = kE t
   | .cell a t, .c1 p => p = kE a ∧ jF P t = some false
   | .cell a t, .cn n p => p = kE a ∧ jF P t = some true ∧ gW P t = some n
   | _, _ => False) ∧ tS P rs ls
 | _, _ => False
theorem b4s {α : Type} (l : List ResultVar) (K : List LRes → α) (no : α) : (∃ r, tS P l r ∧ zT P l K no = K r) ∨ zT P l K no = no := by
 induction l generalizing K with
 | nil => exact .inl ⟨[], trivial, rfl⟩
 | cons r l ih =>
   cases r with
   | tmp t =>
     have e : zT P (.tmp t :: l) K no = lB (kE t) fun p => zT P l (fun l => K (.t p :: l)) no := rfl
     rw [e, kW]
     rcases ih (fun l => K (.t (kE t) :: l)) with ⟨q, h1, h2⟩ | h2
     ·exact .inl ⟨.t (kE t) :: q, ⟨rfl, h1⟩, h2⟩
     ·exact .inr h2
   | cell a t =>
     have e : zT P (.cell a t :: l) K no = match jF P t with
      | some true => a2n (gW P t) no fun n => lB (kE a) fun p => zT P l (fun l => K (.cn n p :: l)) no
      | some false => lB (kE a) fun p => zT P l (fun l => K (.c1 p :: l)) no
      | none => no := rfl
     rw [e]
     split
     ·rename_i ha
      cases hn : gW P t with
      | none => exact .inr rfl
      | some n =>
        rw [oA, kW]
        rcases ih (fun l => K (.cn n (kE a) :: l)) with ⟨q, h1, h2⟩ | h2
        ·exact .inl ⟨.cn n (kE a) :: q, ⟨⟨rfl, ha, hn⟩, h1⟩, h2⟩
        ·exact .inr h2
     ·rename_i ha
      rw [kW]
      rcases ih (fun l => K (.c1 (kE a) :: l)) with ⟨q, h1, h2⟩ | h2
      ·exact .inl ⟨.c1 (kE a) :: q, ⟨⟨rfl, ha⟩, h1⟩, h2⟩
      ·exact .inr h2
     ·exact .inr rfl
theorem a9Q {H H1 : Heap} {f : Fr} {l : List Value} (hf : FAg f l) {r : ResultVar} {q : LRes} {rs : List ResultVar} {qs : List LRes} (h : tS P (r :: rs) (q :: qs)) {v : Value} (hv : (a2L H f q).Is v H1) : H1 = H ∧ a0l P l H r = some v ∧ tS P rs qs := by
 obtain ⟨h, hr⟩ := h
 cases r with
 | tmp t => cases q with
   | t p =>
     have h : p = kE t := h
     subst h
     have hv : (nC (mY (kE t) f) fun v => Rs.ok v H).Is v H1 := hv
     rw [mA] at hv
     obtain ⟨rfl, rfl⟩ := Rs.aK hv
     exact ⟨rfl, by rw [hf t]; rfl, hr⟩
   | c1 p => exact h.elim
   | cn n p => exact h.elim
 | cell a t => cases q with
   | t p => exact h.elim
   | c1 p =>
     obtain ⟨rfl, ha⟩ := h
     obtain ⟨e, h1⟩ := a9v (P := P) (X := .t (kE a)) (w := get l a) ha (hf a) hv
     exact ⟨e, h1, hr⟩
   | cn n p =>
     obtain ⟨rfl, ha, hn⟩ := h
     obtain ⟨e, h1⟩ := a9w (P := P) (X := .t (kE a)) (w := get l a) ha hn (hf a) hv
     exact ⟨e, h1, hr⟩
theorem b7K {H : Heap} {f : Fr} {q : LRes} {v : Value} {H1 : Heap} : ¬ (a2L H f q = .th v H1) := by
 intro h
 cases q with
 | t p =>
   have h : (nC (mY p f) fun v => Rs.ok v H) = .th v H1 := h
   rw [mA] at h; cases h
 | c1 p =>
   have h : b1w (.t p) f H = .th v H1 := h
   unfold b1w at h
   split at h
   ·unfold b7p at h
    split at h
    ·rw [kC, kC, kC] at h
     split at h
     ·split at h
      ·split at h
       ·rename_i cs _ _ _ _ _ _ _ _
        cases hn : a0g cs _ with
        | none => rw [hn] at h; cases h
        | some w => rw [hn] at h; have h : (nC w fun v => Rs.ok v H) = .th v H1 := h; rw [mA] at h; cases h
       ·cases h
      ·cases h
     ·cases h
    ·cases h
   ·unfold b9p at h
    split at h
    ·rw [kC] at h
     split at h
     ·rename_i cs _ _ _ _
      cases hn : a0g cs _ with
      | none => rw [hn] at h; cases h
      | some w => rw [hn] at h; have h : (nC w fun v => Rs.ok v H) = .th v H1 := h; rw [mA] at h; cases h
     ·cases h
    ·cases h
   ·cases h
 | cn n p =>
   have hh : b0y n (.t p) f H = .th v H1 := h
   unfold b0y at hh
   split at hh
   ·unfold b8a at hh
    split at hh
    ·rw [kC, kC, kC] at hh
     split at hh
     ·split at hh
      ·split at hh
       ·have key : ∀ {cs : List Value} {n : Nat} {pre : List Value}, ¬ (a1f cs n fun l => Rs.ok (.agg ⟨pre ++ l⟩) H) = .th v H1 := by
         intro cs
         induction cs with
         | nil => intro n pre h; cases n <;> cases h
         | cons c cs ih =>
           intro n pre h
           cases n with
           | zero => cases h
           | succ n =>
             have h : (a1f cs n fun l => Rs.ok (.agg ⟨pre ++ (c :: l)⟩) H) = .th v H1 := h
             have e : ∀ l : List Value, pre ++ (c :: l) = (pre ++ [c]) ++ l := by intro l; simp
             have h2 : (a1f cs n fun l => Rs.ok (.agg ⟨(pre ++ [c]) ++ l⟩) H) = .th v H1 := by
              rw [← h]; congr 1; funext l; rw [e l]
             exact ih h2
        exact key (pre := []) hh
       ·cases hh
      ·cases hh
     ·cases hh
    ·cases hh
   ·cases hh
theorem a5D {H H1 : Heap} {f : Fr} {l : List Value} (hf : FAg f l) {v : Value} : ∀ {rs : List ResultVar} {qs : List LRes} {K : List Value → Rs}, tS P rs qs → (b4H H f qs K).Is v H1 → ∃ vs, mK P l H rs = some vs ∧ (K vs).Is v H1
 | [], [], K, _, h => ⟨[], rfl, h⟩
 | [], _ :: _, _, h, _ => h.elim
 | _ :: _, [], _, h, _ => h.elim
 | r :: rs, q :: qs, K, hl, h => by
   have h : (Rs.rec (motive := fun _ => Rs) .no (fun v _ => b4H H f qs fun l => K (v :: l)) (fun _ _ => .no) (a2L H f q)).Is v H1 := h
   cases hq : a2L H f q with
   | no => rw [hq] at h; exact absurd h Rs.ar
   | th w H2 => exact absurd hq b7K
   | ok w H2 =>
     rw [hq] at h
     obtain ⟨e, h1, h2⟩ := a9Q hf hl (.inl hq)
     obtain ⟨vs, h3, h4⟩ := a5D hf h2 h
     exact ⟨w :: vs, by simp [mK, h1, h3], h4⟩
theorem b4a {fn : Func} {H H1 : Heap} {f : Fr} {l : List Value} (hf : FAg f l) {qs : List LRes} (hl : tS P fn.results.toList qs) {v : Value} (h : (a6C qs f H).Is v H1) : H1 = H ∧ gV P fn l H = some v := by
 unfold a6C at h
 split at h
 ·rename_i q
  cases hr : fn.results.toList with
  | nil => rw [hr] at hl; exact hl.elim
  | cons r rs =>
    rw [hr] at hl
    obtain ⟨e, h1, h2⟩ := a9Q hf hl h
    cases rs with
    | cons _ _ => exact h2.elim
    | nil => exact ⟨e, by simp [gV, hr, mK, h1]⟩
 ·rename_i hne
  obtain ⟨vs, h1, h2⟩ := a5D hf hl h
  obtain ⟨h3, h4⟩ := kP h2
  obtain ⟨rfl, rfl⟩ := Rs.aK h4
  refine ⟨rfl, ?_⟩
  have hlen : ∀ {rs : List ResultVar} {qs : List LRes}, tS P rs qs → rs.length = qs.length := by
   intro rs
   induction rs with
   | nil => intro qs h; cases qs with | nil => rfl | cons => exact h.elim
   | cons r rs ih => intro qs h; cases qs with | nil => exact h.elim | cons q qs => simp [ih h.2]
  have hvl : ∀ {rs : List ResultVar} {vs : List Value}, mK P l H1 rs = some vs → vs.length = rs.length := by
   intro rs
   induction rs with
   | nil => intro vs h; injection h with h; subst h; rfl
   | cons r rs ih =>
     intro vs h
     simp only [mK, cU, cZ] at h
     obtain ⟨w, _, ws, h1, h2⟩ := h
     subst h2
     simp [ih h1]
  have hn1 : vs.length ≠ 1 := by
   rw [hvl h1, hlen hl]
   intro h1
   match qs, h1 with
   | [q], _ => exact hne q rfl
  unfold gV
  rw [h1, cT]
  rw [b0d] at h3
  have h3 : vs.all jS = true := by rw [← h3]; congr 1
  split
  ·exact absurd rfl hn1
  ·rw [if_pos h3]
structure FuncOk (P : Program) (f : FuncId) (g : LFunc) : Prop where
 ex : ∃ fn c, P.funcs[f]? = some fn ∧ fn.body = some c ∧ (fn.name == "runtime.NumGoroutine") = false ∧ g.ps = (List.range fn.ntmps).map kE ∧ Low P fn.ntmps c g.body ∧ tS P fn.results.toList g.res
def TOk (P : Program) (T : LT) : Prop := ∀ f g, a0x (kE f) T = some g → FuncOk P f g
def EOk (P : Program) (E : List LEnv) (H : Heap) : Prop := ∀ en ∈ E, en.L < H.length ∧ ∀ r, iI H en.L = some (.loop r) →
 ∃ k, en.ps = (List.range k).map kE ∧ r.tmps.size = k ∧ en.pp = r.params.toList.map kE ∧ (∀ t ∈ r.params.toList, t < k) ∧ Low P k r.assign en.a ∧ Low P k r.body en.b
theorem EOk.ai {E : List LEnv} {H H' : Heap} (h : EOk P E H) (hk : LK H H') : EOk P E H' := fun en hen => by
 obtain ⟨h1, h2⟩ := h en hen
 refine ⟨dy h1 hk.1, fun r' hr' => ?_⟩
 obtain ⟨r, hr, ea, eb, ep, et⟩ := hk.2 en.L r' h1 hr'
 obtain ⟨k, a, b, c, d, e, f⟩ := h2 r hr
 exact ⟨k, a, by rw [et]; exact b, by rw [ep]; exact c, by rw [ep]; exact d, by rw [ea]; exact e, by rw [eb]; exact f⟩
def a3q (P : Program) (ih : pC) : Prop := ∀ (E : List LEnv) (C : LCode) (k : Nat) (c : Code) (f : Fr) (l : List Value) (H : Heap) (e : Ex) (f1 : Fr) (H1 : Heap), Low P k c C → FRel k f l → EOk P E H → ih E C f H = .ok e f1 H1 →
 ∃ l1, FRel k f1 l1 ∧ Sim P c l H e l1 H1 ∧ LK H H1 ∧ ∀ b, c = .loop b → ∃ n, Rounds P b n l H e l1 H1
theorem yO {α : Type} {no : α} : ∀ {l : List Value} {i m : Nat} {f : Fr} {K : Fr → α}, (nZ no l ((List.range' i m).map kE) f K = no) ∨ (l.length ≤ m ∧ ∃ f', nZ no l ((List.range' i m).map kE) f K = K f' ∧ ∀ t, mY (kE t) f' = if i ≤ t ∧ t < i + l.length then get l (t - i) else mY (kE t) f)
 | [], i, m, f, K => .inr ⟨eI _, f, rfl, fun t => by rw [if_neg (by simp only [eX]; omega)]⟩
 | v :: l, i, 0, f, K => .inl rfl
 | v :: l, i, m + 1, f, K => by
   have e : nZ no (v :: l) ((List.range' i (m + 1)).map kE) f K = oQ v (kE i) f fun f => nZ no l ((List.range' (i + 1) m).map kE) f K := by
    rw [gp]; rfl
   rw [e, rL]
   rcases yO (l := l) (i := i + 1) (m := m) (f := b4r f i v) (K := K) with h | ⟨h1, f', h2, h3⟩
   ·exact .inl h
   ·refine .inr ⟨by simp; omega, f', h2, fun t => ?_⟩
    rw [h3 t, a2Z]
    by_cases ht : t = i
    ·subst ht
     rw [if_neg (by omega), if_pos rfl, if_pos (by simp), Nat.sub_self]; rfl
    ·rw [if_neg ht]
     by_cases h4 : i + 1 ≤ t ∧ t < i + 1 + l.length
     ·rw [if_pos h4, if_pos (by simp; omega)]
      rw [show t - i = (t - (i + 1)) + 1 by omega]; rfl
     ·rw [if_neg h4, if_neg (by simp; omega)]
theorem uO {α : Type} {no : α} {k : Nat} : ∀ {args : List Value} {ps : List Tmp} {f : Fr} {l : List Value} {K : Fr → α}, FRel k f l → (∀ t ∈ ps, t < k) → args.length = ps.length →
 ∃ f', nZ no args (ps.map kE) f K = K f' ∧ FRel k f' ((ps.zip args).foldl (fun t (p, v) => t.set p v) l)
 | [], [], f, l, K, hf, _, _ => ⟨f, rfl, hf⟩
 | v :: args, p :: ps, f, l, K, hf, hp, he => by
   have e : nZ no (v :: args) ((p :: ps).map kE) f K = oQ v (kE p) f fun f => nZ no args (ps.map kE) f K := rfl
   rw [e, rL]
   exact uO (hf.set (hp p (by simp)) v) (fun t ht => hp t (by simp [ht])) (by simpa using he)
 | [], _ :: _, _, _, _, _, _, he => by simp at he
 | _ :: _, [], _, _, _, _, _, he => by simp at he
theorem xS (l : List Value) (n t : Nat) : get (l ++ List.replicate n undef) t = get l t := by
 rw [nM, nM]
 simp only [cW]
 by_cases h : t < l.length
 ·rw [dZ h]
 ·rw [ee (by omega), dR (l := l) (by omega), gE]
  split <;> rfl
theorem zC {T : LT} (hT : TOk P T) {ih : pC} (hih : a3q P ih) {E : List LEnv} {p : Pth} {f : FuncId} {args : List Value} {H H1 : Heap} {v : Value} (hE : EOk P E H) (hp : p = kE f) (h : (lY T ih E p args H).Is v H1) :
 FnS P f args H (fun v' H' => v' = v ∧ H' = H1) ∧ LK H H1 := by
 unfold lY at h
 split at h
 case h_2 => exact absurd h Rs.ar
 rename_i g hg
 subst hp
 obtain ⟨fn, c, hfn, hb, hn, hps, hlow, hres⟩ := (hT f g hg).ex
 rw [hps] at h
 rw [fu] at h
 rcases yO (no := Rs.no) (l := args) (i := 0) (m := fn.ntmps) (f := .e) (K := fun f => c1e g.res (ih E g.body f H)) with h1 | ⟨h1, f0, h2, h3⟩
 ·rw [h1] at h; exact absurd h Rs.ar
 ·rw [h2] at h
  have hf0 : FRel fn.ntmps f0 (args ++ List.replicate (fn.ntmps - args.length) undef) := by
   refine ⟨by simp; omega, fun t => ?_⟩
   rw [h3 t, xS]
   by_cases ht : t < args.length
   ·rw [if_pos (by omega)]; rfl
   ·rw [if_neg (by omega), sU, nM, cW, dR (by omega)]; try rfl
  cases hr : ih E g.body f0 H with
  | no => rw [hr] at h; exact absurd h Rs.ar
  | ok e f1 H2 =>
    rw [hr] at h
    obtain ⟨l1, hf1, hs, hk, _⟩ := hih E g.body fn.ntmps c f0 _ H e f1 H2 hlow hf0 hE hr
    have key : (e = .normal ∨ e = .ret) → (a6C g.res f1 H2).Is v H1 → FnS P f args H (fun v' H' => v' = v ∧ H' = H1) ∧ LK H H1 := by
     intro he hv
     obtain ⟨rfl, hv⟩ := b4a hf1.2 hres hv
     exact ⟨⟨fn, c, e, l1, H1, v, hfn, hb, hn, hs, he, hv, rfl, rfl⟩, hk⟩
    cases e with
    | normal => exact key (.inl rfl) h
    | ret => exact key (.inr rfl) h
    | exit id => exact absurd h Rs.ar
theorem b3g {T : LT} (hT : TOk P T) {ih : pC} (hih : a3q P ih) {E : List LEnv} {p : Pth} {f : FuncId} {args : List Value} {H H1 : Heap} {v : Value} (hE : EOk P E H) (hp : p = kE f) (h : (b3o P T ih E p f args H).Is v H1) :
 (FnS P f args H (fun v' H' => v' = v ∧ H' = H1) ∨ oZ P f args H = some (v, H1)) ∧ LK H H1 := by
 unfold b3o at h
 cases hg : a0x p T with
 | some g =>
   rw [hg] at h
   obtain ⟨a, b⟩ := zC (H1 := H1) (v := v) hT hih hE hp (by unfold lY; rw [hg]; exact h)
   exact ⟨.inl a, b⟩
 | none =>
   rw [hg] at h
   have h : (b9Y P f args H).Is v H1 := h
   unfold b9Y at h
   split at h
   ·rename_i v2 H2 hx
    obtain ⟨rfl, rfl⟩ := Rs.aM h
    exact ⟨.inr hx, a3I hx⟩
   ·exact absurd h Rs.ar
theorem a8Q {E : List LEnv} {L : Nat} {en : LEnv} (h : b2P E L = some en) : en ∈ E ∧ en.L = L := by
 induction E with
 | nil => cases h
 | cons e E ih =>
   have h : mX (Nat.beq e.L L) (b2P E L) (some e) = some en := h
   rw [kC] at h
   split at h
   ·rename_i hh
    injection h with h
    subst h
    exact ⟨by simp, dI hh⟩
   ·obtain ⟨h1, h2⟩ := ih h
    exact ⟨dN _ h1, h2⟩
theorem a6K (e : Ex) : b8Q e = qK e := by cases e <;> rfl
theorem b2t {ih : pC} (hih : a3q P ih) {E : List LEnv} {L : Nat} {args : List Value} {H H1 : Heap} {v : Value} (hE : EOk P E H) (h : (a8K ih E L args H).Is v H1) : wB P L args H v H1 ∧ LK H H1 := by
 unfold a8K at h
 split at h
 case h_2 => exact absurd h Rs.ar
 rename_i en hen
 obtain ⟨hmem, rfl⟩ := a8Q hen
 split at h
 case h_2 => exact absurd h Rs.ar
 rename_i p fn tmps ps a b d hg
 obtain ⟨hlen, h⟩ := kP h
 rw [wV] at hlen
 have hlen : ps.size = args.length := by simpa only [decide_eq_true_eq] using hlen
 obtain ⟨k, hps, hsz, hpp, hpk, hla, hlb⟩ := (hE en hmem).2 _ hg
 have hsz : tmps.length = k := by simpa using hsz
 rw [hps, fu] at h
 rcases yO (no := Rs.no) (l := tmps) (i := 0) (m := k) (f := .e) (K := fun f => nZ .no args en.pp f fun f => rT ih E en (ih E en.a f H)) with h1 | ⟨h1, f0, h2, h3⟩
 ·rw [h1] at h; exact absurd h Rs.ar
 rw [h2] at h
 have hf0 : FRel k f0 tmps := by
  refine ⟨hsz, fun t => ?_⟩
  rw [h3 t]
  by_cases ht : t < tmps.length
  ·rw [if_pos (by omega)]; rfl
  ·rw [if_neg (by omega), sU, nM, cW, dR (by omega)]; try rfl
 rw [hpp] at h
 obtain ⟨f2, h4, hf2⟩ := uO (no := Rs.no) (args := args) (ps := ps.toList) (K := fun f => rT ih E en (ih E en.a f H)) hf0 hpk (by simpa using hlen.symm)
 have h : (nZ Rs.no args (List.map kE ps.toList) f0 fun f => rT ih E en (ih E en.a f H)).Is v H1 := h
 rw [h4] at h
 cases hr1 : ih E en.a f2 H with
 | no => rw [hr1] at h; exact absurd h Rs.ar
 | ok e f3 H2 =>
   rw [hr1] at h
   obtain ⟨l3, hf3, hs1, hk1, _⟩ := hih E en.a k a f2 _ H e f3 H2 hla hf2 hE hr1
   cases e with
   | ret => exact absurd h Rs.ar
   | exit id => exact absurd h Rs.ar
   | normal =>
     have h : (yT ih E en f3 H2).Is v H1 := h
     unfold yT at h
     split at h
     case h_2 => exact absurd h Rs.ar
     rename_i p2 fn2 tmps2 ps2 a2 b2 d2 hg2
     rw [lI] at h
     obtain ⟨r0, hr0, ea, eb, ep, et⟩ := hk1.2 en.L _ (hE en hmem).1 hg2
     rw [hg] at hr0
     injection hr0 with hr0
     injection hr0 with hr0
     subst hr0
     have ea' : a2 = a := ea
     have eb' : b2 = b := eb
     have ep' : ps2 = ps := ep
     have et' : tmps2 = ⟨tmps⟩ := et
     clear ea eb ep et
     subst ea' eb' ep' et'
     have hk2 : LK H2 (hset H2 en.L (.loop ⟨.busy, p2, fn2, ⟨tmps⟩, ps2, a2, b2, d2⟩)) := .loop hg2 ⟨rfl, rfl, rfl, rfl⟩
     cases hr2 : ih E en.b f3 (hset H2 en.L (.loop ⟨.busy, p2, fn2, ⟨tmps⟩, ps2, a2, b2, d2⟩)) with
     | no => rw [hr2] at h; exact absurd h Rs.ar
     | ok e f4 H3 =>
       rw [hr2] at h
       obtain ⟨l4, _, hs2, hk3, _⟩ := hih E en.b k b2 f3 _ _ e f4 H3 hlb hf3 (hE.ai (hk1.trans hk2)) hr2
       have h : (a1S en.L e H3).Is v H1 := h
       unfold a1S at h
       split at h
       case h_2 => exact absurd h Rs.ar
       rename_i st3 p3 fn3 tmps3 ps3 a3 b3 d3 hg3
       have fin : ∀ r', H1 = hset H3 en.L (.loop r') → (r' = { (⟨st3, p3, fn3, tmps3, ps3, a3, b3, d3⟩ : Loop) with state := if (qK e).isNone then .ready else .done, pending := qK e }) → v = .bool (qK e).isNone → wB P en.L args H v H1 ∧ LK H H1 := by
        intro r' hH hr' hv
        refine ⟨?_, hk1.trans (hk2.trans (hk3.trans (by rw [hH]; exact .loop hg3 (by rw [hr']; exact ⟨rfl, rfl, rfl, rfl⟩))))⟩
        have hW := zX (P := P) (args := args) (K := fun v' H' => v' = v ∧ H' = H1) hg hlen rfl
         ⟨.normal, l3, H2, hs1, rfl, _, hg2, rfl, e, l4, H3, hs2, _, hg3, hv.symm, by rw [hH, hr']⟩
        obtain ⟨v', H', h1, rfl, rfl⟩ := hW
        exact h1
       split at h
       ·rename_i hj
        obtain ⟨rfl, rfl⟩ := Rs.aM h
        rw [a6K] at hj
        exact fin _ rfl (by rw [hj]; rfl) (by rw [hj]; rfl)
       ·rename_i c hj
        obtain ⟨rfl, rfl⟩ := Rs.aM h
        rw [a6K] at hj
        exact fin _ rfl (by rw [hj]; rfl) (by rw [hj]; rfl)
theorem a2N {T : LT} (hT : TOk P T) {ih : pC} (hih : a3q P ih) {E : List LEnv} {H0 : Heap} (hE : EOk P E H0) : CallsOk P (zD P T ih E) H0 where
 fn p f args H v H1 hk h hp := b3g hT hih (hE.ai hk) hp h
 rd L args H v H1 hk h := b2t hih (hE.ai hk) h
theorem c0I {α : Type} {f : Fr} {l : List Value} (hf : FAg f l) (i m : Nat) (K : List Value → α) : frL f ((List.range' i m).map kE) K = K ((List.range' i m).map (get l)) := by
 induction m generalizing i K with
 | zero => rfl
 | succ m ih =>
   have e : frL f ((List.range' i (m + 1)).map kE) K = nC (mY (kE i) f) fun v => frL f ((List.range' (i + 1) m).map kE) fun l => K (v :: l) := by
    rw [gp]; rfl
   rw [e, mA, ih, hf i, gp]; rfl
theorem b5O {α : Type} {k : Nat} {f : Fr} {l : List Value} (hf : FRel k f l) (K : List Value → α) : frL f ((List.range k).map kE) K = K l := by
 rw [fu, c0I hf.2, ← fu]
 congr 1
 apply gg
 intro i
 rw [ew]
 by_cases hi : i < k
 ·rw [gx hi, dD, nM, cW]
  have : i < l.length := by rw [hf.1]; exact hi
  simp [dc this]
 ·rw [dR (by simp; omega), dR (by rw [hf.1]; omega)]; rfl
theorem b1V {T : LT} (hT : TOk P T) {ih : pC} (hih : a3q P ih) {E : List LEnv} {k : Nat} {g : Operand} {ps : Array Tmp} {assign body : Code} {A B : LCode} (hg : iE g = true) (hps : ∀ t ∈ ps.toList, t < k) (ha : Low P k assign A) (hb : Low P k body B)
 {x1 x2 : Fr → Heap → Rc} {f : Fr} {l : List Value} {H : Heap} {e : Ex} {f1 : Fr} {H1 : Heap} (hf : FRel k f l) (hE : EOk P E H) (h : a7D T ih E (iN g) ((List.range k).map kE) (ps.toList.map kE) ps assign body A B x1 x2 f H = .ok e f1 H1) :
 f1 = f ∧ Sim P (.rangeFunc g ps assign body) l H e l H1 ∧ LK H H1 := by
 unfold a7D at h
 rw [jI hf.2] at h
 split at h
 case h_2 => cases h
 rename_i j xa xb hgv
 rw [jN, b5O hf, lI, jN] at h
 unfold b0h at h
 rw [kW] at h
 generalize hH0 : H.cons (.loop ⟨.ready, none, 0, ⟨l⟩, ps, assign, body, 0⟩) = H0 at h
 have hl0 : (⟨.ready, none, 0, ⟨l⟩, ps, assign, body, 0⟩ : Loop) = a9Z l ps assign body := rfl
 have hE0 : EOk P (⟨H.length, (List.range k).map kE, ps.toList.map kE, A, B⟩ :: E) H0 := by
  intro en hen
  rcases dJ.1 hen with rfl | hen
  ·refine ⟨by rw [← hH0, length_cons]; exact Nat.lt_succ_self _, fun r hr => ?_⟩
   rw [← hH0, iC] at hr
   injection hr with hr
   injection hr with hr
   subst hr
   exact ⟨k, rfl, by simpa using hf.1, rfl, hps, ha, hb⟩
  ·exact (hE.ai (by rw [← hH0]; exact .cons _ _)) en hen
 have key : ∀ v H2, (lY T ih (⟨H.length, (List.range k).map kE, ps.toList.map kE, A, B⟩ :: E) (kE j) (a4p xa (.func (.yield H.length) #[] #[] :: xb)) H0).Is v H2 → tD H.length f H2 = .ok e f1 H1 → f1 = f ∧ Sim P (.rangeFunc g ps assign body) l H e l H1 ∧ LK H H1 := by
  intro v H2 hc hr
  obtain ⟨hfn, hk⟩ := zC hT hih hE0 rfl hc
  have hargs : a4p xa (.func (.yield H.length) #[] #[] :: xb) = xa ++ [.func (.yield H.length) #[] #[]] ++ xb := by rw [xM]; simp
  rw [hargs, ← hH0, hl0] at hfn
  have fin : ∀ (r : Loop) (H3 : Heap), iI H2 H.length = some (.loop r) → r.state ≠ .busy → H3 = hset H2 H.length (.loop { r with state := .exhausted }) → (r.pending = none → e = .normal) → (∀ c, r.pending = some c → (c = .ret ∧ e = .ret) ∨ ∃ id, c = .exit id ∧ e = .exit id) → f1 = f → H1 = H3 →
   f1 = f ∧ Sim P (.rangeFunc g ps assign body) l H e l H1 ∧ LK H H1 := by
   intro r H3 hrl hnb hH3 hp0 hp1 he1 he2
   have hw : Wp P (.rangeFunc g ps assign body) l H (fun e' l' H' => e' = e ∧ l' = l ∧ H' = H3) := by
    refine Wp.range (first := xa) (captured := xb) hg (by rw [hgv]) (hfn.mono ?_)
    rintro v' H' ⟨rfl, rfl⟩
    refine ⟨r, hrl, hnb, fun hp => ⟨(hp0 hp).symm, rfl, hH3.symm⟩, fun c hc => ?_⟩
    rcases hp1 c hc with ⟨rfl, he⟩ | ⟨id, rfl, he⟩
    ·exact Wp.ret ⟨he.symm, rfl, hH3.symm⟩
    ·exact Wp.exit ⟨he.symm, rfl, hH3.symm⟩
   obtain ⟨e', l', H', hs, rfl, rfl, rfl⟩ := hw
   refine ⟨he1, by rw [he2]; exact hs, ?_⟩
   rw [he2, hH3]
   have h1 : LK H H0 := by rw [← hH0]; exact .cons _ _
   exact h1.trans (hk.trans (.loop hrl ⟨rfl, rfl, rfl, rfl⟩))
  unfold tD at hr
  split at hr
  ·rename_i hg2
   rw [lI] at hr
   injection hr with h1 h2 h3
   exact fin _ _ hg2 (by simp) rfl (fun _ => h1.symm) (fun c hc => by cases hc) h2.symm h3.symm
  ·rename_i hg2
   rw [lI] at hr
   injection hr with h1 h2 h3
   exact fin _ _ hg2 (by simp) rfl (fun _ => h1.symm) (fun c hc => by cases hc) h2.symm h3.symm
  ·rename_i hg2
   rw [lI] at hr
   injection hr with h1 h2 h3
   exact fin _ _ hg2 (by simp) rfl (fun hc => by cases hc) (fun c hc => by injection hc with hc; subst hc; exact .inl ⟨rfl, h1.symm⟩) h2.symm h3.symm
  ·rename_i hg2
   rw [lI] at hr
   injection hr with h1 h2 h3
   exact fin _ _ hg2 (by simp) rfl (fun hc => by cases hc) (fun c hc => by injection hc with hc; subst hc; exact .inr ⟨_, rfl, h1.symm⟩) h2.symm h3.symm
  ·cases hr
 cases hc : lY T ih (⟨H.length, (List.range k).map kE, ps.toList.map kE, A, B⟩ :: E) (kE j) (a4p xa (.func (.yield H.length) #[] #[] :: xb)) H0 with
 | no => rw [hc] at h; cases h
 | ok v H2 => rw [hc] at h; exact key v H2 (.inl hc) h
 | th v H2 =>
   rw [hc] at h
   have h : mS H2 (fun H => tD _ f H) = .ok e f1 H1 := h
   rw [lI] at h
   exact key v H2 (.inr hc) h
theorem b9R (jU : P.follows .mixedOrders = true) {T : LT} (hT : TOk P T) : ∀ n, a3q P (zI P T n) := by
 intro n
 induction n with
 | zero => intro E C k c f l H e f1 H1 _ _ _ h; cases h
 | succ n ih =>
   intro E C k c f l H e f1 H1 hlow hf hE h
   have h : a9s P T (zI P T n) E C f H = .ok e f1 H1 := h
   have noloop : ∀ {c : Code}, (∀ b, c ≠ .loop b) → ∀ {l1 : List Value}, ∀ b, c = .loop b → ∃ n, Rounds P b n l H e l1 H1 := fun hne _ b hb => absurd hb (hne b)
   cases hlow with
   | bad => cases h
   | skip =>
     injection h with h1 h2 h3; subst h1 h2 h3
     exact ⟨l, hf, .skip l H, .refl H, noloop (by intro b h; cases h)⟩
   | label t =>
     injection h with h1 h2 h3; subst h1 h2 h3
     exact ⟨l, hf, .label t l H, .refl H, noloop (by intro b h; cases h)⟩
   | exit id =>
     injection h with h1 h2 h3; subst h1 h2 h3
     exact ⟨l, hf, .exit id l H, .refl H, noloop (by intro b h; cases h)⟩
   | ret =>
     injection h with h1 h2 h3; subst h1 h2 h3
     exact ⟨l, hf, .ret l H, .refl H, noloop (by intro b h; cases h)⟩
   | @reg id ops d lo hlo hd =>
     have h : c2G (xO P (zD P T (zI P T n) E) lo f H) = .ok e f1 H1 := h
     cases hr : xO P (zD P T (zI P T n) E) lo f H with
     | no => rw [hr] at h; cases h
     | ok f2 H2 =>
       rw [hr] at h
       injection h with h1 h2 h3; subst h1 h2 h3
       obtain ⟨l1, hf1, hops, hk⟩ := b7i (a2N hT ih hE) hlo (i := 0) rfl hf (.refl H) hr
       have hops : OpsR P ops (List.range ops.size) l H l1 H2 := by rw [fu]; simpa using hops
       refine ⟨l1, hf1, ?_, hk, noloop (by intro b h; cases h)⟩
       cases d with
       | false => exact .region hops
       | true => exact .bT jU (hd rfl) hops
   | drw hlo ht hl =>
     obtain ⟨l1, rfl, hf1, hs, hk⟩ := b7a jU (a2N hT ih hE) hlo ht hl hf h
     exact ⟨l1, hf1, hs, hk, noloop (by intro b h; cases h)⟩
   | @seq a b A B ha hb =>
     have h : b7U (zI P T n) E B (zI P T n E A f H) = .ok e f1 H1 := h
     cases hr : zI P T n E A f H with
     | no => rw [hr] at h; cases h
     | ok e2 f2 H2 =>
       rw [hr] at h
       obtain ⟨l2, hf2, hs, hk, _⟩ := ih E A k a f l H e2 f2 H2 ha hf hE hr
       cases e2 with
       | normal =>
         obtain ⟨l1, hf1, hs1, hk1, _⟩ := ih E B k b f2 l2 H2 e f1 H1 hb hf2 (hE.ai hk) h
         exact ⟨l1, hf1, .seq hs hs1, hk.trans hk1, noloop (by intro b h; cases h)⟩
       | ret =>
         injection h with h1 h2 h3; subst h1 h2 h3
         exact ⟨l2, hf2, .seq' hs (by intro h; cases h), hk, noloop (by intro b h; cases h)⟩
       | exit id =>
         injection h with h1 h2 h3; subst h1 h2 h3
         exact ⟨l2, hf2, .seq' hs (by intro h; cases h), hk, noloop (by intro b h; cases h)⟩
   | @cond c x y X Y hc hx hy =>
     have h : b5h (zI P T n) E (iN c) X Y (a9s P T (zI P T n) E X) (a9s P T (zI P T n) E Y) f H = .ok e f1 H1 := h
     unfold b5h at h
     rw [jI hf.2] at h
     split at h
     ·rename_i t ht
      cases t with
      | true =>
        obtain ⟨l1, hf1, hs, hk, _⟩ := ih E X k x f l H e f1 H1 hx hf hE h
        exact ⟨l1, hf1, .cond ht hc hs, hk, noloop (by intro b h; cases h)⟩
      | false =>
        obtain ⟨l1, hf1, hs, hk, _⟩ := ih E Y k y f l H e f1 H1 hy hf hE h
        exact ⟨l1, hf1, .cond ht hc hs, hk, noloop (by intro b h; cases h)⟩
     ·cases h
   | @block id b B hb =>
     have h : c3j id (zI P T n E B f H) = .ok e f1 H1 := h
     cases hr : zI P T n E B f H with
     | no => rw [hr] at h; cases h
     | ok e2 f2 H2 =>
       rw [hr] at h
       obtain ⟨l2, hf2, hs, hk, _⟩ := ih E B k b f l H e2 f2 H2 hb hf hE hr
       have hs' : Sim P (.block id b) l H (e2.out id) l2 H2 := .block hs
       cases e2 with
       | normal => injection h with h1 h2 h3; subst h1 h2 h3; exact ⟨l2, hf2, hs', hk, noloop (by intro b h; cases h)⟩
       | ret => injection h with h1 h2 h3; subst h1 h2 h3; exact ⟨l2, hf2, hs', hk, noloop (by intro b h; cases h)⟩
       | exit i =>
         have h : Rc.ok (Bool.rec (motive := fun _ => Ex) (.exit i) .normal (Nat.beq i id)) f2 H2 = .ok e f1 H1 := h
         injection h with h1 h2 h3; subst h2 h3
         have : (Ex.exit i).out id = e := by
          rw [← h1]
          by_cases hi : i = id
          ·subst hi; simp [Ex.out]
          ·have : Nat.beq i id = false := fI.2 fun e => hi (dI e)
           simp [Ex.out, hi, this]
         rw [this] at hs'
         exact ⟨l2, hf2, hs', hk, noloop (by intro b h; cases h)⟩
   | @loop b B hb =>
     have h : b7U (zI P T n) E (.loop B) (zI P T n E B f H) = .ok e f1 H1 := h
     cases hr : zI P T n E B f H with
     | no => rw [hr] at h; cases h
     | ok e2 f2 H2 =>
       rw [hr] at h
       obtain ⟨l2, hf2, hs, hk, _⟩ := ih E B k b f l H e2 f2 H2 hb hf hE hr
       have last : e2 ≠ .normal → e2 = e → f2 = f1 → H2 = H1 → ∃ l1, FRel k f1 l1 ∧ Sim P (.loop b) l H e l1 H1 ∧ LK H H1 ∧ ∀ b', Code.loop b = .loop b' → ∃ n, Rounds P b' n l H e l1 H1 := by
        intro hne h1 h2 h3
        subst h1 h2 h3
        have hr : Rounds P b 1 l H e2 l2 H2 := .last hs hne
        exact ⟨l2, hf2, .loop hr, hk, fun b' hb' => by injection hb' with hb'; subst hb'; exact ⟨1, hr⟩⟩
       cases e2 with
       | normal =>
         obtain ⟨l1, hf1, hs1, hk1, hro⟩ := ih E (.loop B) k (.loop b) f2 l2 H2 e f1 H1 (.loop hb) hf2 (hE.ai hk) h
         obtain ⟨m, hm⟩ := hro b rfl
         have hr : Rounds P b (m + 1) l H e l1 H1 := .more hs hm
         exact ⟨l1, hf1, .loop hr, hk.trans hk1, fun b' hb' => by injection hb' with hb'; subst hb'; exact ⟨_, hr⟩⟩
       | ret => injection h with h1 h2 h3; exact last (by intro h; cases h) h1 h2 h3
       | exit id => injection h with h1 h2 h3; exact last (by intro h; cases h) h1 h2 h3
   | range hg hps ha hb =>
     obtain ⟨rfl, hs, hk⟩ := b1V (x1 := fun _ _ => .no) (x2 := fun _ _ => .no) hT ih hg hps ha hb hf hE h
     exact ⟨l, hf, hs, hk, noloop (by intro b h; cases h)⟩
theorem wJ {α : Type} (v : LFunc) (p : Pth) (f : LT) (K : LT → α) : qQ v p f K = K (qQ v p f fun f => f) := by
 induction p generalizing f α with
 | z => cases f <;> rfl
 | l p ih =>
   cases f with
   | e =>
     show qQ v p .e (fun l => K (.n none l .e)) = K (qQ v p .e fun l => .n none l .e)
     rw [ih, ih (K := fun l => LT.n none l .e)]
   | n w l r =>
     show qQ v p l (fun l => K (.n w l r)) = K (qQ v p l fun l => .n w l r)
     rw [ih, ih (K := fun l => LT.n w l r)]
 | r p ih =>
   cases f with
   | e =>
     show qQ v p .e (fun l => K (.n none .e l)) = K (qQ v p .e fun l => .n none .e l)
     rw [ih, ih (K := fun l => LT.n none .e l)]
   | n w l r =>
     show qQ v p r (fun r => K (.n w l r)) = K (qQ v p r fun r => .n w l r)
     rw [ih, ih (K := fun r => LT.n w l r)]
theorem vF (p : Pth) : a0x p .e = none := by cases p <;> rfl
theorem b1M (v : LFunc) (p q : Pth) (f : LT) {g : LFunc} (h : a0x q (qQ v p f fun f => f) = some g) : (q = p ∧ g = v) ∨ a0x q f = some g := by
 induction p generalizing f q with
 | z =>
   cases q with
   | z => left; refine ⟨rfl, ?_⟩; cases f <;> (injection h with h; exact h.symm)
   | l q => right; cases f with
     | e => have h : a0x q .e = some g := h
            rw [vF] at h; cases h
     | n => exact h
   | r q => right; cases f with
     | e => have h : a0x q .e = some g := h
            rw [vF] at h; cases h
     | n => exact h
 | l p ih =>
   have h1 : ∀ f, qQ v (.l p) f (fun f => f) = match f with | .e => .n none (qQ v p .e fun f => f) .e | .n w l r => .n w (qQ v p l fun f => f) r := fun f => by
    cases f with
    | e => exact wJ v p .e fun l => LT.n none l .e
    | n w l r => exact wJ v p l fun l => LT.n w l r
   rw [h1] at h
   cases q with
   | z => right; cases f with
     | e => exact h
     | n => exact h
   | r q => right; cases f with
     | e => have h : a0x q .e = some g := h
            rw [vF] at h; cases h
     | n => exact h
   | l q =>
     cases f with
     | e =>
       rcases ih q .e h with ⟨rfl, hq⟩ | h
       ·exact .inl ⟨rfl, hq⟩
       ·rw [vF] at h; cases h
     | n w l r =>
       rcases ih q l h with ⟨rfl, hq⟩ | h
       ·exact .inl ⟨rfl, hq⟩
       ·exact .inr h
 | r p ih =>
   have h1 : ∀ f, qQ v (.r p) f (fun f => f) = match f with | .e => .n none .e (qQ v p .e fun f => f) | .n w l r => .n w l (qQ v p r fun f => f) := fun f => by
    cases f with
    | e => exact wJ v p .e fun l => LT.n none .e l
    | n w l r => exact wJ v p r fun r => LT.n w l r
   rw [h1] at h
   cases q with
   | z => right; cases f with
     | e => exact h
     | n => exact h
   | l q => right; cases f with
     | e => have h : a0x q .e = some g := h
            rw [vF] at h; cases h
     | n => exact h
   | r q =>
     cases f with
     | e =>
       rcases ih q .e h with ⟨rfl, hq⟩ | h
       ·exact .inl ⟨rfl, hq⟩
       ·rw [vF] at h; cases h
     | n w l r =>
       rcases ih q r h with ⟨rfl, hq⟩ | h
       ·exact .inl ⟨rfl, hq⟩
       ·exact .inr h
theorem b1E {α : Type} (f : FuncId) (no : α) (K : LFunc → α) : (∃ g, FuncOk P f g ∧ a0B P f no K = K g) ∨ a0B P f no K = no := by
 unfold a0B
 split
 ·rename_i fn hfn
  split
  ·rename_i c hb
   rw [kC]
   split
   ·exact .inr rfl
   ·rename_i hn
    rcases b4s (P := P) fn.results.toList (fun res => b0H fn.ntmps fun ps => mH P fn.ntmps c fun b => K ⟨ps, b, res⟩) no with ⟨res, hres, h1⟩ | h1
    ·rw [h1, a9r]
     obtain ⟨C, hC, h2⟩ := b1o (P := P) fn.ntmps c (fun b => K ⟨(List.range fn.ntmps).map kE, b, res⟩)
     exact .inl ⟨⟨_, C, res⟩, ⟨fn, c, hfn, hb, by simpa using hn, rfl, hC, hres⟩, h2⟩
    ·exact .inr h1
  ·exact .inr rfl
 ·exact .inr rfl
theorem b3F {α : Type} (fs : List FuncId) (T : LT) (hT : TOk P T) (K : LT → α) : ∃ T', TOk P T' ∧ sJ P fs T K = K T' := by
 induction fs generalizing T with
 | nil => exact ⟨T, hT, rfl⟩
 | cons f fs ih =>
   have e : sJ P (f :: fs) T K = a0B P f (sJ P fs T K) fun g => lB (kE f) fun p => qQ g p T fun T => sJ P fs T K := rfl
   rw [e]
   rcases b1E (P := P) f (sJ P fs T K) (fun g => lB (kE f) fun p => qQ g p T fun T => sJ P fs T K) with ⟨g, hg, h⟩ | h
   ·rw [h, kW, wJ]
    refine ih _ fun f' g' h' => ?_
    rcases b1M g (kE f) (kE f') T h' with ⟨he, rfl⟩ | h'
    ·rw [a9x he]; exact hg
    ·exact hT f' g' h'
   ·rw [h]; exact ih T hT
end Go.Ds
namespace Go.Ds
open Go.Proofs Go.Proofs.Tryz
def t64 : List Nat := [0, 1, 56, 2, 57, 49, 28, 3, 61, 58, 42, 50, 38, 29, 17, 4, 62, 47, 59, 36, 45, 43, 51, 22, 53, 39, 33, 30, 24, 18, 12, 5, 63, 55, 48, 27, 60, 41, 37, 16, 46, 35, 44, 21, 52, 32, 23, 11, 54, 26, 40, 15, 34, 20, 31, 10, 25, 14, 19, 9, 13, 8, 7, 6]
def t32 : List Nat := [0, 1, 28, 2, 29, 14, 24, 3, 30, 22, 20, 15, 25, 17, 4, 8, 31, 27, 13, 23, 21, 19, 16, 7, 26, 12, 18, 6, 11, 5, 10, 9]
noncomputable def gH : Heap := ((((((Heap.nil.cons (.cells (t64.map fun (n : Nat) => Value.int .u8 (.ofNat n)) 5 false 0 1)).cons (.cells [] 3 false 0 1)).cons (.cells [] 275 false 0 1)).cons (.cells [] 275 false 0 1)).cons (.cells ([1, 10, 100, 1000, 10000, 100000, 1000000, 10000000, 100000000, 1000000000, 10000000000, 100000000000, 1000000000000, 10000000000000, 100000000000000, 1000000000000000, 10000000000000000, 100000000000000000, 1000000000000000000, 10000000000000000000].map fun (n : Nat) => Value.int .u64 (.ofNat n)) 39 false 0 1)).cons (.cells (t32.map fun (n : Nat) => Value.int .u8 (.ofNat n)) 5 false 0 1))
theorem c3z : prog.follows .mixedOrders = true := by kernel_rfl
def b1r : Nat → Nat → List UInt8 → List UInt8
 | 0, _, acc => acc
 | f + 1, n, acc => if n < 10 then (48 + n).toUInt8 :: acc else b1r f (n / 10) ((48 + n % 10).toUInt8 :: acc)
def oC (n : Nat) : ByteArray := ⟨(b1r 100 n []).toArray⟩
theorem a4l {b : ByteArray} {n : Nat} (h : b.data.toList = b1r 100 n []) : b = oC n := by
 cases b with | mk d => cases d with | mk l => simp only at h; subst h; rfl
def b0e (r : Rs) (n : Nat) : Bool := match r with
 | .ok (.string b) _ => decide (b.data.toList = b1r 100 n [])
 | .th (.string b) _ => decide (b.data.toList = b1r 100 n [])
 | _ => false
def b7D (v : Value) (n : Nat) : Bool := match v with
 | .tuple vs => match vs.toList with
   | [.string b, .int .i64 m] => decide (m = 0) && decide (b.data.toList = b1r 100 n [])
   | _ => false
 | _ => false
def b3b (r : Rs) (n : Nat) : Bool := match r with
 | .ok v _ => b7D v n
 | .th v _ => b7D v n
 | _ => false
def b3X (r : Rs) (n : Int) : Bool := match r with
 | .ok (.int .i64 m) _ => decide (m = n)
 | .th (.int .i64 m) _ => decide (m = n)
 | _ => false
noncomputable def b8x (ps : List Nat) : Bool := sJ prog [133, 155, 136, 188, 213, 225, 232, 233, 234, 235, 241, 242, 243, 244, 248] .e fun T => ps.all fun x => b0e (lY T (zI prog T 4000) [] (kE 155) [.int .i64 x] gH) x
def fsP : List Nat := [133, 223, 209, 211, 168, 154, 136, 222, 237, 201, 202, 184, 185, 186, 187, 191, 236, 245, 206, 207, 208, 210, 212, 196, 214, 220, 221, 224, 217, 232, 233, 234, 235, 241, 242, 243, 244, 248]
noncomputable def tM (ps : List Nat) : Bool := sJ prog fsP .e fun T => ps.all fun x => b3b (lY T (zI prog T 4000) [] (kE 154) [.string (oC x), .int .i64 24] gH) (x ^ 24)
def fsM : List Nat := [133, 223, 209, 211, 168, 155, 156, 136, 188, 222, 237, 201, 202, 184, 185, 186, 187, 189, 191, 213, 236, 245, 206, 207, 208, 210, 212, 196, 214, 225, 220, 221, 224, 217, 232, 233, 234, 235, 241, 242, 243, 244, 248]
noncomputable def lL (ps : List (Nat × Nat)) : Bool := sJ prog fsM .e fun T => ps.all fun x => b0e (lY T (zI prog T 4000) [] (kE 156) [.string (oC x.1), .string (oC x.2)] gH) (x.1 * x.2)
def qR (t : Nat × Nat) : List (Nat × Nat) := (t.1 ^ 24, 2) :: (List.range t.2).map fun k => (2 * t.1 ^ 24 * 4 ^ k, 4)
def a6o (t : Nat × Nat × Nat) : List (Nat × Nat) := (List.range (t.2.2 + 1)).map fun k => (t.1 ^ 24, 2 * t.2.1 ^ 24 * 4 ^ k)
def b4y (a b : Nat) : Int := if a < b then -1 else if b < a then 1 else 0
noncomputable def tF (ps : List (Nat × Nat)) : Bool := sJ prog [157, 190, 191, 192, 196, 214, 215, 217, 226] .e fun T => ps.all fun x => b3X (lY T (zI prog T 4000) [] (kE 157) [.string (oC x.1), .string (oC x.2)] gH) (b4y x.1 x.2)
end Go.Ds
namespace Go.Ds
open Go.RowKit Go.Proofs
section
variable {P : Program} {ρ : Rho} {H : Heap} {w : World}
theorem a3n {name : String} {g : Nat} {k : IntKind} {zs : List Int} (hg : P.globalNamed name = some g) (ht : Lib.TabIs P w name k zs) : ∃ t fr, w.heap[g]? = some (.cells (zs.map fun z => Value.int k z).toArray t fr) := by
 unfold Lib.TabIs World.var? at ht
 rw [hg, cT] at ht
 split at ht
 ·rename_i cs t fr hb
  obtain rfl := cR ht
  exact ⟨t, fr, hb⟩
 ·cases ht
theorem InW.cE (h : InW P ρ H w) {name : String} {g : Nat} {k : IntKind} {zs : List Int} {ty : TypeId} (hg : P.globalNamed name = some g) (ht : Lib.TabIs P w name k zs) (hgH : g = H.length) (hty : gW P ty = some 1) :
 InW P (ρ.put H.length (zs.map fun z => Value.int k z).length ⟨g, 0, zs.length, 1⟩) (H.cons (.cells (zs.map fun z => Value.int k z) ty false 0 1)) w := by
 obtain ⟨t, fr, hb⟩ := a3n hg ht
 refine (h.row ⟨g, 0, zs.length, 1⟩ hb (ty := ty) hty (by simp) (zs.map fun z => Value.int k z) 1 (fun _ => ⟨hgH, rfl⟩) (by simp) fun i c hi _ hc => ⟨c, ?_, ?_⟩).1
 ·have : (⟨g, 0, zs.length, 1⟩ : Place).at i = i := by simp [Place.at]
  rw [this]
  simpa using hc
 ·rw [ew] at hc
  obtain ⟨z, _, rfl⟩ := cZ.1 hc
  exact .c0 (.flat rfl)
end
theorem c1z : ∀ A b, iI gH A = some b → ∃ cs ty lo, b = .cells cs ty false lo 1 ∧ jV cs = true := by
 intro A b h
 unfold gH at h
 have hn : ∀ (H : Heap) (c : Blk), iI (H.cons c) A = some b → (A = H.length ∧ b = c) ∨ iI H A = some b := fun H c h => by
  by_cases he : A = H.length
  ·subst he; rw [iC] at h; exact .inl ⟨rfl, (cR h).symm⟩
  ·have hA : A < (H.cons c).length := jA h
   rw [length_cons] at hA
   rw [jK _ (by omega)] at h
   exact .inr h
 rcases hn _ _ h with ⟨_, rfl⟩ | h
 ·exact ⟨_, _, _, rfl, by kernel_rfl⟩
 rcases hn _ _ h with ⟨_, rfl⟩ | h
 ·exact ⟨_, _, _, rfl, by kernel_rfl⟩
 rcases hn _ _ h with ⟨_, rfl⟩ | h
 ·exact ⟨_, _, _, rfl, by kernel_rfl⟩
 rcases hn _ _ h with ⟨_, rfl⟩ | h
 ·exact ⟨_, _, _, rfl, by kernel_rfl⟩
 rcases hn _ _ h with ⟨_, rfl⟩ | h
 ·exact ⟨_, _, _, rfl, by kernel_rfl⟩
 rcases hn _ _ h with ⟨_, rfl⟩ | h
 ·exact ⟨_, _, _, rfl, by kernel_rfl⟩
 ·have : A < 0 := jA h
  omega
theorem ExtW.glob {ρ ρ' : Rho} {H' : Heap} (h : ExtW ρ gH ρ' H') : Glob gH H' := ⟨h.len, fun A hA => h.old A hA, c1z⟩
def p10 : List Int := [1, 10, 100, 1000, 10000, 100000, 1000000, 10000000, 100000000, 1000000000, 10000000000, 100000000000, 1000000000000, 10000000000000, 100000000000000, 1000000000000000, 10000000000000000, 100000000000000000, 1000000000000000000, 10000000000000000000]
theorem g64 : Tryz.prog.globalNamed "math/bits.deBruijn64tab" = some 0 := by kernel_rfl
theorem sQ : Tryz.prog.globalNamed "internal/strconv.uint64pow10" = some 4 := by kernel_rfl
theorem g32 : Tryz.prog.globalNamed "math/bits.deBruijn32tab" = some 5 := by kernel_rfl
theorem b7E {w : World} (h64 : Lib.TabIs Tryz.prog w "math/bits.deBruijn64tab" .u8 (t64.map Int.ofNat)) (h10 : Lib.TabIs Tryz.prog w "internal/strconv.uint64pow10" .u64 p10)
 (h32 : Lib.TabIs Tryz.prog w "math/bits.deBruijn32tab" .u8 (t32.map Int.ofNat)) (h1001 : ∃ cs t fr, w.heap[1]? = some (.cells cs t fr)) (h1002 : ∃ cs t fr, w.heap[2]? = some (.cells cs t fr)) (h1003 : ∃ cs t fr, w.heap[3]? = some (.cells cs t fr)) : ∃ ρ, InW Tryz.prog ρ gH w := by
 have a0 := (InW.none (P := Tryz.prog) w).cE g64 h64 (ty := 5) rfl (by kernel_rfl)
 obtain ⟨cs1, t1, fr1, hb1⟩ := h1001
 have a1 := (a0.row ⟨1, 0, cs1.size, 1⟩ hb1 (ty := 3) (by kernel_rfl) rfl [] 1 (fun _ => ⟨rfl, rfl⟩) (by simp) (fun i c hi => by simp at hi)).1
 obtain ⟨cs2, t2, fr2, hb2⟩ := h1002
 have a2 := (a1.row ⟨2, 0, cs2.size, 1⟩ hb2 (ty := 275) (by kernel_rfl) rfl [] 1 (fun _ => ⟨rfl, rfl⟩) (by simp) (fun i c hi => by simp at hi)).1
 obtain ⟨cs3, t3, fr3, hb3⟩ := h1003
 have a3 := (a2.row ⟨3, 0, cs3.size, 1⟩ hb3 (ty := 275) (by kernel_rfl) rfl [] 1 (fun _ => ⟨rfl, rfl⟩) (by simp) (fun i c hi => by simp at hi)).1
 have a4 := a3.cE sQ h10 (ty := 39) rfl (by kernel_rfl)
 have a5 := a4.cE g32 h32 (ty := 5) rfl (by kernel_rfl)
 exact ⟨_, a5⟩
end Go.Ds
namespace Go.Ds
noncomputable section
variable {P : Program} {H0 : Base} {H : Heap} {os : List Ob} {κ β : Type} [DecidableEq κ] {enc : κ → Value} {f : β → Value} {t : TypeId} {z : Value}
structure MapK (P : Program) (t : TypeId) {κ : Type} [DecidableEq κ] (enc : κ → Value) (z : Value) : Prop where
 ex : ∃ kt et, wI P t = some (kt, et) ∧ iS P et = some z ∧ iT z = true ∧ (∀ b k, wM P b kt (enc k) = true) ∧
  (∀ k (es : List MapEntry) (ks : List κ), es.map (·.key) = ks.map enc → qG P kt (enc k) es = some (ks.findIdx? fun x => decide (x = k))) ∧ ∀ k, Instr.sameBits 10000 (enc k) (enc k) = true
def kcs (enc : κ → Value) (f : β → Value) (kvs : List (κ × β)) : List Value := kvs.flatMap fun p => [enc p.1, f p.2]
def a0z (kvs : List (κ × β)) (k : κ) : Option β := (kvs.find? fun p => decide (p.1 = k)).map (·.2)
def a3x (kvs : List (κ × β)) (k : κ) (v : β) : List (κ × β) := match kvs.findIdx? (fun p => decide (p.1 = k)) with
 | some j => kvs.set j (k, v)
 | none => kvs ++ [(k, v)]
theorem a3E : ∀ (es : List MapEntry) (kvs : List (κ × β)), kcs enc f kvs = mcs es → es.map (·.key) = kvs.map (fun p => enc p.1) ∧ es.map (·.val) = kvs.map (fun p => f p.2)
 | [], [], _ => ⟨rfl, rfl⟩
 | [], p :: kvs, h => by simp [kcs, mcs] at h
 | e :: es, [], h => by simp [kcs, mcs] at h
 | e :: es, p :: kvs, h => by
   simp only [kcs, mcs, dz, gO, eW, fG] at h
   obtain ⟨h1, h2, h3⟩ := h
   obtain ⟨h4, h5⟩ := a3E es kvs h3
   simp only [dU]
   exact ⟨by rw [h4, h1], by rw [h5, h2]⟩
theorem a8z : ∀ (es : List MapEntry) (kvs : List (κ × β)), es.map (·.key) = kvs.map (fun p => enc p.1) → es.map (·.val) = kvs.map (fun p => f p.2) → kcs enc f kvs = mcs es
 | [], [], _, _ => rfl
 | [], p :: kvs, h, _ => by simp at h
 | e :: es, [], h, _ => by simp at h
 | e :: es, p :: kvs, h, h' => by
   simp only [dU, fG] at h h'
   have := a8z es kvs h.2 h'.2
   simp only [kcs, mcs, dz] at this ⊢
   rw [this, h.1, h'.1]
theorem St.bU (hS : St P H0 H os) (i : Nat) {A : Nat} {cs : List Value} (ho : os[i]? = some ⟨.map (some A), 0, cs⟩) : ∃ es ck ver, iI H A = some (.map es ck ver) ∧ cs = mcs es ∧ Stamps es ck := by
 have := hS.own _ (dE ho)
 unfold OwnAt at this
 rw [if_pos rfl] at this
 rcases this with ⟨_, _, _, _, _, _, h⟩ | ⟨A', es, ck, ver, h1, h2, h3, h4⟩
 ·cases h
 ·simp only [Value.map.injEq, du] at h3
  subst h3
  exact ⟨es, ck, ver, h1, h2, h4⟩
theorem a9M (kvs : List (κ × β)) (k : κ) : (∃ j x, (kvs.map (·.1)).findIdx? (fun x => decide (x = k)) = some j ∧ kvs[j]? = some x ∧ kvs.find? (fun p => decide (p.1 = k)) = some x) ∨ ((kvs.map (·.1)).findIdx? (fun x => decide (x = k)) = none ∧ kvs.find? (fun p => decide (p.1 = k)) = none) := by
 induction kvs with
 | nil => exact .inr ⟨rfl, rfl⟩
 | cons p kvs ih =>
   by_cases h : p.1 = k
   ·exact .inl ⟨0, p, by simp [eM, h], rfl, by simp [h]⟩
   ·rcases ih with ⟨j, x, h1, h2, h3⟩ | ⟨h1, h2⟩
    ·exact .inl ⟨j + 1, x, by simp [eM, h, h1], by simpa using h2, by simp [h, h3]⟩
    ·exact .inr ⟨by simp [eM, h, h1], by simp [h, h2]⟩
theorem St.cP (hS : St P H0 H os) (i : Nat) {A : Nat} {kvs : List (κ × β)} (ho : os[i]? = some ⟨.map (some A), 0, kcs enc f kvs⟩) (hk : MapK P t enc z) (hf : ∀ b, mC (f b) = true) (c : Bool) (k : κ) :
 oE P H t (.map (some A)) (enc k) c = some (pairV c (((a0z kvs k).map f).getD z) (a0z kvs k).isSome) := by
 obtain ⟨kt, et, h1, h2, h3, h4, h5, h6⟩ := hk.ex
 obtain ⟨es, ck, ver, h7, h8, _⟩ := hS.bU i ho
 obtain ⟨h9, h10⟩ := a3E es kvs h8
 have hi := h5 k es (kvs.map (·.1)) (by rw [h9]; simp [gJ])
 simp only [oE, h1, cT, a0J, h7, h4, if_true, hi, a0z]
 rcases a9M kvs k with ⟨j, x, e1, e2, e3⟩ | ⟨e1, e3⟩
 ·have hj : es[j]?.map (·.val) = some (f x.2) := by
   rw [← ew, h10, ew, e2]; rfl
  cases he : es[j]? with
  | none => rw [he] at hj; simp at hj
  | some e =>
    rw [he] at hj
    simp only [dD, du] at hj
    simp only [e1, he, cT, hj, hf, if_true, e3, dD, eS, Option.isSome_some]
 ·simp only [e1, e3, Option.map_none, Option.getD_none, Option.isSome_none, h2, cT, h3, if_true]
def a6e (P : Program) (H : Heap) (t : TypeId) (x k : Value) (c : Bool) (K : Value → Prop) (_k : Keep K := ⟨⟩) : Prop := ∃ v, oE P H t x k c = some v ∧ K v
theorem a5u {t : TypeId} {x x' k k' : Value} {c : Bool} {K : Value → Prop} (h : x = x') (h2 : k = k') : a6e P H t x k c K = a6e P H t x' k' c K := by rw [h, h2]
attribute [congr] a5u
theorem a7H (d ty pos af g) (t : TypeId) (x k : Operand) (c : Bool) (l : List Value) (K : Value → Heap → Prop) :
 lM P ⟨d, .lookup t x k c, ty, pos, af, g⟩ l H K = iZ x l fun x => iZ k l fun k => a6e P H t x k c fun v => K v H := by
 have h2 : jP ((oE P H t (ev l x) (ev l k) c).map fun v => (v, H)) K = ∃ v, oE P H t (ev l x) (ev l k) c = some v ∧ K v H := by
  cases oE P H t (ev l x) (ev l k) c <;> simp [jP]
 simp only [lM, opD, iZ, Op.operands, a6e, h2]
 simp [and_assoc]
theorem St.bJ (hS : St P H0 H os) (i : Nat) {A : Nat} {kvs : List (κ × β)} (ho : os[i]? = some ⟨.map (some A), 0, kcs enc f kvs⟩) (hk : MapK P t enc z) (hf : ∀ b, mC (f b) = true) {c : Bool} {k : κ} {K : Value → Prop}
 (h : K (pairV c (((a0z kvs k).map f).getD z) (a0z kvs k).isSome)) : a6e P H t (.map (some A)) (enc k) c K := ⟨_, hS.cP i ho hk hf c k, h⟩
def a3V (P : Program) (H : Heap) (t : TypeId) (K : Value → Heap → Prop) (_k : Keep K := ⟨⟩) : Prop := ∃ v H1, oG P H t none = some (v, H1) ∧ K v H1
theorem a6q (d ty pos af g) (t : TypeId) (l : List Value) (K : Value → Heap → Prop) : lM P ⟨d, .makeMap t none, ty, pos, af, g⟩ l H K = a3V P H t K := by
 simp only [lM, opD, Op.operands, a3V, lV]
 simp
theorem St.bQ (hS : St P H0 H os) (hk : MapK P t enc z) {K : Value → Heap → Prop} (h : ∀ A H1, St P H0 H1 (os ++ [⟨.map (some A), 0, []⟩]) → K (.map (some A)) H1) : a3V P H t K := by
 obtain ⟨kt, et, h1, _⟩ := hk.ex
 refine ⟨.map (some H.length), H.cons (.map [] 0 0), by simp [oG, h1], h _ _ (hS.add ?_ ?_ ?_ ?_)⟩
 ·unfold OwnAt
  rw [if_pos rfl]
  exact .inr ⟨_, [], 0, 0, iC H _, rfl, rfl, .nil 0⟩
 ·simp [oT]
 ·exact fun B hB => jK _ hB
 ·intro B hB
  simp [jW] at hB
  omega
def b5A (P : Program) (H : Heap) (t : TypeId) (m k v : Value) (K : Heap → Prop) (_k : Keep K := ⟨⟩) : Prop := ∃ H1, a0e P H t m k v = some H1 ∧ K H1
theorem a7s {t : TypeId} {m m' k k' v v' : Value} {K : Heap → Prop} (h : m = m') (h2 : k = k') (h3 : v = v') : b5A P H t m k v K = b5A P H t m' k' v' K := by rw [h, h2, h3]
attribute [congr] a7s
theorem a2m (d ty pos af g) (t : TypeId) (m k v : Operand) (l : List Value) (K : Value → Heap → Prop) :
 lM P ⟨d, .mapUpdate t m k v, ty, pos, af, g⟩ l H K = iZ m l fun m => iZ k l fun k => iZ v l fun v => b5A P H t m k v fun H1 => K undef H1 := by
 have h2 : jP ((a0e P H t (ev l m) (ev l k) (ev l v)).map fun H => (undef, H)) K = ∃ H1, a0e P H t (ev l m) (ev l k) (ev l v) = some H1 ∧ K undef H1 := by
  cases a0e P H t (ev l m) (ev l k) (ev l v) <;> simp [jP]
 simp only [lM, opD, iZ, Op.operands, b5A, h2]
 simp [and_assoc]
theorem a9R (kvs : List (κ × β)) (k : κ) (v : β) : a3x kvs k v = match (kvs.map (·.1)).findIdx? (fun x => decide (x = k)) with | some j => kvs.set j (k, v) | none => kvs ++ [(k, v)] := by
 unfold a3x
 rw [List.findIdx?_map]
 rfl
theorem St.ca (hS : St P H0 H os) (i : Nat) {A : Nat} {kvs : List (κ × β)} (ho : os[i]? = some ⟨.map (some A), 0, kcs enc f kvs⟩) (hk : MapK P t enc z) {k : κ} {v : β} {K : Heap → Prop}
 (h : ∀ H1, St P H0 H1 (os.set i ⟨.map (some A), 0, kcs enc f (a3x kvs k v)⟩) → K H1) : b5A P H t (.map (some A)) (enc k) (f v) K := by
 obtain ⟨kt, et, h1, h2, h3, h4, h5, h6⟩ := hk.ex
 obtain ⟨es, ck, ver, h7, h8, hst⟩ := hS.bU i ho
 obtain ⟨h9, h10⟩ := a3E es kvs h8
 have hi := h5 k es (kvs.map (·.1)) (by rw [h9]; simp [gJ])
 have fin : ∀ es' ck', mcs es' = kcs enc f (a3x kvs k v) → Stamps es' ck' → St P H0 (hset H A (.map es' ck' (ver + 1))) (os.set i ⟨.map (some A), 0, kcs enc f (a3x kvs k v)⟩) := by
  intro es' ck' he hst'
  refine hS.put i ho ?_ ?_ ?_ ?_
  ·unfold OwnAt
   rw [if_pos rfl]
   exact .inr ⟨A, es', ck', _, iJ _ (jA h7), he.symm, rfl, hst'⟩
  ·rw [jC]; exact da _
  ·intro B hB hne
   exact pL fun hh => hne (by simp [jW, hh])
  ·exact fun B hB => .inl hB
 rcases a9M kvs k with ⟨j, x, e1, e2, _⟩ | ⟨e1, _⟩
 ·have hj : es[j]?.map (·.key) = some (enc x.1) := by
   rw [← ew, h9, ew, e2]; rfl
  have hx : x.1 = k := by
   have := List.findIdx?_eq_some_iff_getElem.1 e1
   obtain ⟨hlt, hd, _⟩ := this
   have hlt' : j < kvs.length := by simpa using hlt
   have : kvs[j] = x := by
    rw [dc hlt'] at e2
    exact cR e2
   simp [this] at hd
   exact hd
  cases he : es[j]? with
  | none => rw [he] at hj; simp at hj
  | some e =>
    rw [he] at hj
    simp only [dD, du] at hj
    refine ⟨hset H A (.map (es.set j { e with key := enc k, val := f v }) ck (ver + 1)), ?_, h _ (fin _ _ ?_ (hst.set he _ rfl))⟩
    ·have hsb : Instr.sameBits 10000 e.key (enc k) = true := by rw [hj, hx]; exact h6 k
     simp only [a0e, h1, cT, h7, h4, if_true, hi, e1, he, hsb]
    ·symm
     rw [a9R, e1]
     refine a8z _ _ ?_ ?_
     ·rw [List.map_set, List.map_set, h9]
     ·rw [List.map_set, List.map_set, h10]
 ·refine ⟨hset H A (.map (es ++ [{ key := enc k, val := f v, born := ck }]) (ck + 1) (ver + 1)), ?_, h _ (fin _ _ ?_ (hst.push _ rfl))⟩
  ·simp only [a0e, h1, cT, h7, h4, if_true, hi, e1]
  ·symm
   rw [a9R, e1]
   refine a8z _ _ ?_ ?_
   ·rw [dM, dM, h9]; rfl
   ·rw [dM, dM, h10]; rfl
def b7j (P : Program) (H : Heap) (t : TypeId) (m k : Value) (K : Value → Heap → Prop) (_k : Keep K := ⟨⟩) : Prop := ∃ v H1, qZ P H t m k = some (v, H1) ∧ K v H1
theorem a7V {t : TypeId} {m m' k k' : Value} {K : Value → Heap → Prop} (h : m = m') (h2 : k = k') : b7j P H t m k K = b7j P H t m' k' K := by rw [h, h2]
attribute [congr] a7V
def a9T (H : Heap) (m b v : Value) (K : Heap → Prop) (_k : Keep K := ⟨⟩) : Prop := ∃ H1, qH H m b v = some H1 ∧ K H1
theorem a6p {m m' b b' v v' : Value} {K : Heap → Prop} (h : m = m') (h2 : b = b') (h3 : v = v') : a9T H m b v K = a9T H m' b' v' K := by rw [h, h2, h3]
attribute [congr] a6p
theorem a4q (d ty pos af g) (t : TypeId) (m k : Operand) (l : List Value) (K : Value → Heap → Prop) :
 lM P ⟨d, .mapEntry t m k, ty, pos, af, g⟩ l H K = iZ m l fun m => iZ k l fun k => b7j P H t m k K := by
 have h2 : jP (qZ P H t (ev l m) (ev l k)) K = ∃ v H1, qZ P H t (ev l m) (ev l k) = some (v, H1) ∧ K v H1 := lV ..
 simp only [lM, opD, iZ, Op.operands, b7j, h2]
 simp [and_assoc]
theorem a1m (d ty pos af g) (t : TypeId) (m b v : Operand) (l : List Value) (K : Value → Heap → Prop) :
 lM P ⟨d, .entryStore t m b v, ty, pos, af, g⟩ l H K = iZ m l fun m => iZ b l fun b => iZ v l fun v => a9T H m b v fun H1 => K undef H1 := by
 have h2 : jP ((qH H (ev l m) (ev l b) (ev l v)).map fun H => (undef, H)) K = ∃ H1, qH H (ev l m) (ev l b) (ev l v) = some H1 ∧ K undef H1 := by
  cases qH H (ev l m) (ev l b) (ev l v) <;> simp [jP]
 simp only [lM, opD, iZ, Op.operands, a9T, h2]
 simp [and_assoc]
theorem a0X (kvs : List (κ × β)) (k k' : κ) (v : β) : a0z (a3x kvs k v) k' = if k' = k then some v else a0z kvs k' := by
 unfold a0z a3x
 induction kvs with
 | nil =>
   by_cases h : k' = k
   ·simp [h]
   ·simp [h, eR h]
 | cons p kvs ih =>
   by_cases hp : p.1 = k
   ·simp only [eM, hp, decide_true, if_true, fE, List.find?_cons]
    by_cases h : k' = k
    ·simp [h]
    ·simp [h, eR h]
   ·have hd : decide (p.1 = k) = false := by simp [hp]
    simp only [eM, hd, dK, if_false]
    by_cases hq : p.1 = k'
    ·have hne : ¬ k' = k := fun e => hp (hq.trans e)
     cases hh : kvs.findIdx? (fun p => decide (p.1 = k)) with
     | none => simp [hq, hne]
     | some j => simp [hq, hne]
    ·cases hh : kvs.findIdx? (fun p => decide (p.1 = k)) with
     | none =>
       rw [hh] at ih
       simpa [hq, List.find?_cons] using ih
     | some j =>
       rw [hh] at ih
       simpa [hq, List.find?_cons] using ih
end
end Go.Ds
namespace Go.Ds
noncomputable section
variable {P : Program} {H : Heap}
theorem kA {α : Type} (P : Program) (x : α) : iA P (pure x) = some x := rfl
theorem jJ {t : TypeId} {d : TypeDesc} (h : P.underlying t = some d) : iA P (underlying t) = some d := by
 unfold underlying
 rw [gY]
 have : iA P program = some P := rfl
 rw [this, cT, h]
 rfl
def kS : Operand → Bool
 | .const _ => true
 | _ => false
def nQ (c : Bool) (i : Nat) (v : Value) : Operand := if c then .const v else .tmp i
def kQ (P : Program) (op : BinOp) (t t2 : TypeId) (cx cy : Bool) (x y : Value) : Option Value := (opD P ⟨none, .binOp op t (nQ cx 0 x) (nQ cy 1 y) t2, t, "", #[], none⟩ [x, y] .nil).map (·.1)
def kR (P : Program) (op : BinOp) (t t2 : TypeId) (cx cy : Bool) (x y : Value) (K : Value → Prop) (_k : Keep K := ⟨⟩) : Prop := match x, y with
 | .int k a, .int k' b => (match (if k = k' then lT op k a b else none) with | some v => K v | none => jM (kQ P op t t2 cx cy (.int k a) (.int k' b)) K)
 | x, y => jM (kQ P op t t2 cx cy x y) K
theorem a5L {op : BinOp} {t t2 : TypeId} {cx cy : Bool} {x x' y y' : Value} {K : Value → Prop} (h : x = x') (h2 : y = y') : kR P op t t2 cx cy x y K = kR P op t t2 cx cy x' y' K := by rw [h, h2]
attribute [congr] a5L
theorem a8O (x : Operand) (l m : List Value) : ev (ev l x :: m) (nQ (kS x) 0 (ev l x)) = ev l x := by cases x <;> rfl
theorem a8c (x : Operand) (l m : List Value) (a : Value) : ev (a :: ev l x :: m) (nQ (kS x) 1 (ev l x)) = ev l x := by cases x <;> rfl
theorem b2W (op : BinOp) (t : TypeId) (x y : Operand) (l : List Value) : eqGuard op t x y (ev l x) (ev l y) = eqGuard op t (nQ (kS x) 0 (ev l x)) (nQ (kS y) 1 (ev l y)) (ev l x) (ev l y) := by
 generalize hx : ev l x = vx
 generalize hy : ev l y = vy
 cases x <;> cases y <;> rfl
theorem b5V (d ty pos af g) (op : BinOp) (t : TypeId) (x y : Operand) (t2 : TypeId) (l : List Value) (H : Heap) :
 opD P ⟨d, .binOp op t x y t2, ty, pos, af, g⟩ l H = (kQ P op t t2 (kS x) (kS y) (ev l x) (ev l y)).map fun v => (v, H) := by
 have hp : jZ P ⟨d, .binOp op t x y t2, ty, pos, af, g⟩ l H = _ := mD (P := P) ⟨d, .binOp op t x y t2, ty, pos, af, g⟩ ⟨none, .binOp op t (nQ (kS x) 0 (ev l x)) (nQ (kS y) 1 (ev l y)) t2, t, "", #[], none⟩ l [ev l x, ev l y] H
  (by simp only [Op.operands, dU, fW, a8O, a8c]) (by
    simp only [execOp]
    rw [a8O, a8c, ← b2W])
 simp only [opD, kQ, hp, a8O, a8c]
 generalize jZ P _ _ _ = r
 generalize ev l x = vx
 generalize ev l y = vy
 split
 all_goals first
  | (split <;> first | rfl | (split <;> first | rfl | (cases r <;> rfl)) | (cases r <;> rfl))
  | (cases r <;> rfl)
theorem b4B (d ty pos af g) (op : BinOp) (t : TypeId) (x y : Operand) (t2 : TypeId) (l : List Value) (K : Value → Heap → Prop) :
 lM P ⟨d, .binOp op t x y t2, ty, pos, af, g⟩ l H K = iZ x l fun x' => iZ y l fun y' => kR P op t t2 (kS x) (kS y) x' y' fun v => K v H := by
 have h : jP (opD P ⟨d, .binOp op t x y t2, ty, pos, af, g⟩ l H) K = kR P op t t2 (kS x) (kS y) (ev l x) (ev l y) fun v => K v H := by
  have key : jP ((kQ P op t t2 (kS x) (kS y) (ev l x) (ev l y)).map fun v => (v, H)) K = jM (kQ P op t t2 (kS x) (kS y) (ev l x) (ev l y)) fun v => K v H := by
   cases kQ P op t t2 (kS x) (kS y) (ev l x) (ev l y) <;> rfl
  rw [b5V, key]
  unfold kR
  split
  ·rename_i k a k' b hx hy
   split
   ·rename_i v hv
    split at hv
    ·rename_i hk
     subst hk
     have : kQ P op t t2 (kS x) (kS y) (.int k a) (.int k b) = some v := by
      have h1 : ∀ m, ev ((.int k a : Value) :: m) (nQ (kS x) 0 (.int k a)) = .int k a := fun m => by cases kS x <;> rfl
      have h2 : ∀ m c, ev (c :: (.int k b : Value) :: m) (nQ (kS y) 1 (.int k b)) = .int k b := fun m c => by cases kS y <;> rfl
      cases op <;> simp only [lT] at hv <;> first | (cases hv; done) | (simp only [kQ, opD, h1, h2, lT, if_true, hv]; rfl)
     rw [hx, hy, this]
     rfl
    ·cases hv
   ·rw [hx, hy]
  ·rfl
 simp only [lM, h, iZ, Op.operands]
 simp [and_assoc]
theorem lK (op : BinOp) (t t2 : TypeId) (cx cy : Bool) (k : IntKind) (a b : Int) {v : Value} (K : Value → Prop) (h : lT op k a b = some v) : kR P op t t2 cx cy (.int k a) (.int k b) K = oI v K := by
 simp [kR, h, oI]
section
theorem b1m (t t2 : TypeId) (cx cy : Bool) (k : IntKind) (a b : Int) (K : Value → Prop) : kR P .add t t2 cx cy (.int k a) (.int k b) K = oI (.int k (k.wrap (a + b))) K := lK _ _ _ _ _ _ _ _ _ (by simp [lT, a9S, tB])
theorem b1d (t t2 : TypeId) (cx cy : Bool) (k : IntKind) (a b : Int) (K : Value → Prop) : kR P .sub t t2 cx cy (.int k a) (.int k b) K = oI (.int k (k.wrap (a - b))) K := lK _ _ _ _ _ _ _ _ _ (by simp [lT, a9J, tB])
theorem b1x (t t2 : TypeId) (cx cy : Bool) (k : IntKind) (a b : Int) (K : Value → Prop) : kR P .mul t t2 cx cy (.int k a) (.int k b) K = oI (.int k (k.wrap (a * b))) K := lK _ _ _ _ _ _ _ _ _ (by simp [lT, tB])
theorem b1A (t t2 : TypeId) (cx cy : Bool) (k : IntKind) (a b : Int) (K : Value → Prop) : kR P .eql t t2 cx cy (.int k a) (.int k b) K = oI (.bool (decide (a = b))) K := lK _ _ _ _ _ _ _ _ _ (by simp [lT, a0y]; rfl)
theorem b0T (t t2 : TypeId) (cx cy : Bool) (k : IntKind) (a b : Int) (K : Value → Prop) : kR P .neq t t2 cx cy (.int k a) (.int k b) K = oI (.bool (decide (¬ a = b))) K := lK _ _ _ _ _ _ _ _ _ (by simp [lT, a0y]; rfl)
theorem b1H (t t2 : TypeId) (cx cy : Bool) (k : IntKind) (a b : Int) (K : Value → Prop) : kR P .lss t t2 cx cy (.int k a) (.int k b) K = oI (.bool (decide (a < b))) K := lK _ _ _ _ _ _ _ _ _ (by simp [lT, yS])
theorem b0G (t t2 : TypeId) (cx cy : Bool) (k : IntKind) (a b : Int) (K : Value → Prop) : kR P .leq t t2 cx cy (.int k a) (.int k b) K = oI (.bool (decide (a ≤ b))) K := lK _ _ _ _ _ _ _ _ _ (by simp [lT, yS, ← Int.not_lt])
theorem b2p (t t2 : TypeId) (cx cy : Bool) (k : IntKind) (a b : Int) (K : Value → Prop) : kR P .gtr t t2 cx cy (.int k a) (.int k b) K = oI (.bool (decide (b < a))) K := lK _ _ _ _ _ _ _ _ _ (by simp [lT, yS])
theorem b0u (t t2 : TypeId) (cx cy : Bool) (k : IntKind) (a b : Int) (K : Value → Prop) : kR P .geq t t2 cx cy (.int k a) (.int k b) K = oI (.bool (decide (b ≤ a))) K := lK _ _ _ _ _ _ _ _ _ (by simp [lT, yS, ← Int.not_lt])
theorem b0D (t t2 : TypeId) (cx cy : Bool) (k : IntKind) (a b : Int) (K : Value → Prop) (hb : b ≠ 0) : kR P .rem t t2 cx cy (.int k a) (.int k b) K = oI (.int k (a.tmod b)) K := lK _ _ _ _ _ _ _ _ _ (by
 have : (b == 0) = false := by simp [hb]
 simp [lT, a0y, this])
theorem b2d (t t2 : TypeId) (cx cy : Bool) (k : IntKind) (a b : Int) (K : Value → Prop) (hb : b ≠ 0) : kR P .quo t t2 cx cy (.int k a) (.int k b) K = oI (.int k (k.wrap (a.tdiv b))) K := lK _ _ _ _ _ _ _ _ _ (by
 have : (b == 0) = false := by simp [hb]
 simp [lT, a0y, tB, this])
end
theorem kX {op : BinOp} {t t2 : TypeId} {cx cy : Bool} {x y v : Value} (hx : flat x = true) (hy : flat y = true) (hg : iA P (eqGuard op t (nQ cx 0 x) (nQ cy 1 y) x y) = some ())
 (hv : iA P (binOp op t x y) = some v) (hf : flat v = true) (hs : ∀ a n c, x ≠ .slice (some a) n c) (hp : ∀ a, x ≠ .pointer (some a)) (hi : ∀ k a b, x = .int k a → y = .int k b → lT op k a b = none) : kQ P op t t2 cx cy x y = some v := by
 have h1 : ∀ m, ev (x :: m) (nQ cx 0 x) = x := fun m => by cases cx <;> rfl
 have h2 : ∀ m c, ev (c :: y :: m) (nQ cy 1 y) = y := fun m c => by cases cy <;> rfl
 have hpl : jZ P ⟨none, .binOp op t (nQ cx 0 x) (nQ cy 1 y) t2, t, "", #[], none⟩ [x, y] .nil = some (v, .nil) := by
  unfold jZ
  rw [if_pos (by simp [Op.operands, h1, h2, hx, hy])]
  have : execOp (ev [x, y]) ⟨none, .binOp op t (nQ cx 0 x) (nQ cy 1 y) t2, t, "", #[], none⟩ = (do let v ← (do eqGuard op t (nQ cx 0 x) (nQ cy 1 y) x y; binOp op t x y); pure (.value v)) := by
   simp only [execOp, h1, h2]
  rw [this, gY, gY, hg, cT, hv, cT, kA]
  simp only [hf, if_true]
 simp only [kQ, opD, h1, h2, hpl]
 split
 ·exact absurd rfl (hs _ _ _)
 ·exact absurd rfl (hs _ _ _)
 ·rename_i k a k' b
  split
  ·rename_i hk
   subst hk
   rw [hi _ _ _ rfl rfl]
   rfl
  ·rfl
 ·exact absurd rfl (hp _)
 ·exact absurd rfl (hp _)
 ·exact absurd rfl (hp _)
 ·exact absurd rfl (hp _)
 ·rfl
theorem pE {op : BinOp} {t : TypeId} {x y : Operand} {k k' : IntKind} {a b : Int} : iA P (eqGuard op t x y (.int k a) (.int k' b)) = some () := by
 unfold eqGuard
 split <;> rfl
section
theorem b2B (t t2 : TypeId) (cx cy : Bool) (a b : Int) {k k' : IntKind} (hb : 0 ≤ b) : kQ P .shr t t2 cx cy (.int k a) (.int k' b) = some (.int k (a.fdiv (2 ^ (min b.toNat k.bits)))) :=
 kX rfl rfl pE (by simp only [binOp, Op.shift]; rw [if_neg (by omega)]; rfl) rfl (by simp) (by simp) (by intros; rfl)
theorem b5p (t t2 : TypeId) (cx cy : Bool) (a b : Int) {k k' : IntKind} (hb : 0 ≤ b) : kQ P .shl t t2 cx cy (.int k a) (.int k' b) = some (.int k (k.wrap (a * 2 ^ (min b.toNat k.bits)))) :=
 kX rfl rfl pE (by simp only [binOp, Op.shift]; rw [if_neg (by omega)]; rfl) rfl (by simp) (by simp) (by intros; rfl)
theorem b5v (t t2 : TypeId) (cx cy : Bool) (a b : Int) (k : IntKind) : kQ P .and t t2 cx cy (.int k a) (.int k b) = some (.int k (k.wrap (BitVec.ofInt k.bits a &&& BitVec.ofInt k.bits b).toNat)) :=
 kX rfl rfl pE (by simp only [binOp]; rw [if_neg (by simp)]; rfl) rfl (by simp) (by simp) (by intros; rfl)
theorem b7A (t t2 : TypeId) (cx cy : Bool) (a b : Int) (k : IntKind) : kQ P .or t t2 cx cy (.int k a) (.int k b) = some (.int k (k.wrap (BitVec.ofInt k.bits a ||| BitVec.ofInt k.bits b).toNat)) :=
 kX rfl rfl pE (by simp only [binOp]; rw [if_neg (by simp)]; rfl) rfl (by simp) (by simp) (by intros; rfl)
theorem b2A (t t2 : TypeId) (cx cy : Bool) (a b : Int) (k : IntKind) : kQ P .xor t t2 cx cy (.int k a) (.int k b) = some (.int k (k.wrap (BitVec.ofInt k.bits a ^^^ BitVec.ofInt k.bits b).toNat)) :=
 kX rfl rfl pE (by simp only [binOp]; rw [if_neg (by simp)]; rfl) rfl (by simp) (by simp) (by intros; rfl)
theorem a6g (t t2 : TypeId) (cx cy : Bool) (a b : Int) (k : IntKind) : kQ P .andNot t t2 cx cy (.int k a) (.int k b) = some (.int k (k.wrap (BitVec.ofInt k.bits a &&& ~~~ BitVec.ofInt k.bits b).toNat)) :=
 kX rfl rfl pE (by simp only [binOp]; rw [if_neg (by simp)]; rfl) rfl (by simp) (by simp) (by intros; rfl)
end
section
variable (a b : ByteArray)
theorem yL {op : BinOp} {t : TypeId} {x y : Operand} : iA P (eqGuard op t x y (.string a) (.string b)) = some () := by
 unfold eqGuard
 split <;> rfl
theorem zZ (h : a.data.toList = b.data.toList) : a = b := by
 cases a; cases b
 simp only [ByteArray.mk.injEq]
 exact Array.toList_inj.1 h
theorem a1U : (a.toList == b.toList) = decide (a = b) := by
 rw [ByteArray.toList_eq, ByteArray.toList_eq, dP, beq_iff_eq, decide_eq_true_iff]
 exact ⟨zZ a b, fun h => by rw [h]⟩
theorem a8t (t t2 : TypeId) (cx cy : Bool) (a b : ByteArray) : kQ P .eql t t2 cx cy (.string a) (.string b) = some (.bool (decide (a = b))) :=
 kX rfl rfl (yL a b) (by rw [← a1U]; rfl) rfl (by simp) (by simp) (by intro _ _ _ h; cases h)
theorem a9g (t t2 : TypeId) (cx cy : Bool) (a b : ByteArray) : kQ P .neq t t2 cx cy (.string a) (.string b) = some (.bool (decide (¬ a = b))) :=
 kX rfl rfl (yL a b) (by
  have : decide (¬ a = b) = !(a.toList == b.toList) := by rw [a1U]; simp
  rw [this]; rfl) rfl (by simp) (by simp) (by intro _ _ _ h; cases h)
theorem a5n (t t2 : TypeId) (cx cy : Bool) (a b : ByteArray) (h : a.size + b.size < 9223372036854775808) : kQ P .add t t2 cx cy (.string a) (.string b) = some (.string (a ++ b)) :=
 kX rfl rfl (yL a b) (by
  simp only [binOp, Op.stringOp]
  rw [if_neg]
  ·rfl
  ·have : IntKind.i64.max = 9223372036854775807 := by decide
   rw [this]; omega) rfl (by simp) (by simp) (by intro _ _ _ h; cases h)
end
theorem b4Q {t : TypeId} (s : ByteArray) (ht : mZ P t = true) : yZ P H t (.string s) = some (.int .i64 s.size) := by
 unfold mZ at ht
 unfold yZ
 split at ht
 ·rename_i h; rw [h]; simp [vA, goInt]
 ·cases ht
def nW (P : Program) (t : TypeId) (x i : Value) : Option Value := (opD P ⟨none, .index t (.const x) (.const i), t, "", #[], none⟩ [] .nil).map (·.1)
theorem b0P (d ty pos af g) (t : TypeId) (x i : Operand) (l : List Value) (K : Value → Heap → Prop) :
 lM P ⟨d, .index t x i, ty, pos, af, g⟩ l H K = iZ x l fun x => iZ i l fun i => jM (nW P t x i) fun v => K v H := by
 have h : opD P ⟨d, .index t x i, ty, pos, af, g⟩ l H = (nW P t (ev l x) (ev l i)).map fun v => (v, H) := by
  have hp := mD (P := P) ⟨d, .index t x i, ty, pos, af, g⟩ ⟨none, .index t (.const (ev l x)) (.const (ev l i)), t, "", #[], none⟩ l [] H rfl rfl
  simp only [opD, nW]
  exact hp
 have h2 : jP ((nW P t (ev l x) (ev l i)).map fun v => (v, H)) K = jM (nW P t (ev l x) (ev l i)) fun v => K v H := by cases nW P t (ev l x) (ev l i) <;> rfl
 simp only [lM, h, iZ, Op.operands, h2]
 simp [and_assoc]
def nP (s : ByteArray) (i : Nat) : Nat := (s.data.toList.getD i 0).toNat
theorem a8w {t : TypeId} (s : ByteArray) (k : IntKind) (i : Int) (ht : mZ P t = true) (h0 : 0 ≤ i) (h1 : i < s.size) : nW P t (.string s) (.int k i) = some (.int .u8 (nP s i.toNat)) := by
 have hu : P.underlying t = some .string := by
  unfold mZ at ht
  split at ht
  ·rename_i h; exact h
  ·cases ht
 have hr : iA P (Instr.index t (.string s) (.int k i)) = some (.int .u8 (nP s i.toNat)) := by
  unfold Instr.index
  rw [gY]
  have e1 : iA P (asIntOf (.int k i)) = some (k, i) := rfl
  rw [e1, cT]
  simp only [gY, jJ hu, cT]
  rw [if_pos h0]
  have hlt : i.toNat < s.size := by omega
  have hb : s[i.toNat]? = some s[i.toNat] := by simp [getElem?_pos, hlt]
  simp only [hb]
  rw [kA]
  congr 3
  unfold nP
  rw [cW]
  have hl : i.toNat < s.data.toList.length := by simpa using hlt
  rw [dc hl]
  rfl
 have hpl : jZ P ⟨none, .index t (.const (.string s)) (.const (.int k i)), t, "", #[], none⟩ [] .nil = some (.int .u8 (nP s i.toNat), .nil) := by
  unfold jZ
  rw [if_pos (by rfl)]
  have : execOp (ev []) ⟨none, .index t (.const (.string s)) (.const (.int k i)), t, "", #[], none⟩ = (do let v ← Instr.index t (.string s) (.int k i); pure (.value v)) := rfl
  rw [this, gY, hr, cT, kA]
  rfl
 simp only [nW, opD, hpl]
 rfl
def a0d (P : Program) (t : TypeId) : Option IntKind := match P.underlying t with | some (.int k) => some k | _ => none
theorem yG {t : TypeId} {k : IntKind} (h : a0d P t = some k) : P.underlying t = some (.int k) := by
 unfold a0d at h
 split at h
 ·rename_i h2; rw [h2]; injection h with h; rw [h]
 ·cases h
theorem b1u {s t : TypeId} {k k' : IntKind} (a : Int) (hs : a0d P s = some k) (ht : a0d P t = some k') : a1N P s t (.int k a) = some (.int k' (k'.wrap a)) := by
 have hr : iA P (convert s t (.int k a)) = some (.int k' (k'.wrap a)) := by
  unfold convert
  simp only [gY, jJ (yG hs), jJ (yG ht), cT]
  rfl
 have hpl : jZ P ⟨none, .convert s t (.const (.int k a)), t, "", #[], none⟩ [] .nil = some (.int k' (k'.wrap a), .nil) := by
  unfold jZ
  rw [if_pos (by rfl)]
  have : execOp (ev []) ⟨none, .convert s t (.const (.int k a)), t, "", #[], none⟩ = (do let v ← convert s t (.int k a); pure (.value v)) := rfl
  rw [this, gY, hr, cT, kA]
  rfl
 simp only [a1N, hpl]
 rfl
def a4r (P : Program) (d : Nat) (xs ys : Array Value) (fs : List Field) : Option Bool :=
 (iA P (forIn fs ((none, ()) : Option Bool × Unit) fun f _ =>
   if f.name ≠ "_" then do
    let a ← part f.type xs f.offset
    let b ← part f.type ys f.offset
    let c ← Op.equalIn d f.type a b
    if (!c) = true then pure (ForInStep.done (some false, ())) else pure (ForInStep.yield (none, ()))
   else pure (ForInStep.yield (none, ())))).bind fun x => iA P (match x.fst with | some r => pure r | none => pure true)
theorem a1t {d : Nat} {xs ys : Array Value} (g : Field → Bool) : ∀ (fs : List Field), (∀ f ∈ fs, f.name ≠ "_" ∧ iA P (part f.type xs f.offset >>= fun x => part f.type ys f.offset >>= fun y => Op.equalIn d f.type x y) = some (g f)) →
 a4r P d xs ys fs = some (fs.all g)
 | [], _ => rfl
 | f :: fs, hg => by
   obtain ⟨h1, h2⟩ := hg f (dL ..)
   have ih := a1t g fs fun f' h => hg f' (dN _ h)
   unfold a4r at ih ⊢
   rw [gY] at h2
   simp only [List.forIn_cons, h1, ne_eq, not_false_eq_true, if_true, gY]
   cases hx : iA P (part f.type xs f.offset) with
   | none => rw [hx] at h2; cases h2
   | some x =>
     rw [hx, cT, gY] at h2
     cases hy : iA P (part f.type ys f.offset) with
     | none => rw [hy] at h2; cases h2
     | some y =>
       rw [hy, cT] at h2
       simp only [cT, h2]
       cases hgf : g f with
       | false =>
         simp only [Bool.not_false, if_true, kA, cT, fc, hgf, fw]
       | true =>
         simp only [Bool.not_true, dK, if_false, kA, cT, fc, hgf, gA]
         exact ih
theorem a5w {d : Nat} {t : TypeId} {fs : List Field} {xs ys : Array Value} (hu : P.underlying t = some (.struct fs.toArray)) (hst : P.stoodInHeld t = false) (g : Field → Bool)
 (hg : ∀ f ∈ fs, f.name ≠ "_" ∧ iA P (part f.type xs f.offset >>= fun x => part f.type ys f.offset >>= fun y => Op.equalIn d f.type x y) = some (g f)) : iA P (Op.equalIn (d + 1) t (.agg xs) (.agg ys)) = some (fs.all g) := by
 rw [Op.equalIn, gY, jJ hu, cT]
 have hp : iA P program = some P := rfl
 simp only [gY, hp, cT, hst, dK, if_false, List.forIn_toArray]
 refine Eq.trans ?_ (a1t g fs hg)
 unfold a4r
 congr 1
 funext x
 cases x.fst <;> rfl
theorem a2K {op : BinOp} {t : TypeId} (ht : P.eqGuardType P.depth t = false) {x y : Operand} {a b : Array Value} : iA P (eqGuard op t x y (.agg a) (.agg b)) = some () := by
 have hp : iA P program = some P := rfl
 unfold eqGuard
 cases op <;> simp [gY, hp, ht, kA]
theorem b4D {t t2 : TypeId} {cx cy : Bool} {xs ys : List Value} (b : Bool) (ht : P.eqGuardType P.depth t = false) (hx : xs.all iP = true) (hy : ys.all iP = true) (h : iA P (Op.equalIn (9999 + 1) t (.agg xs.toArray) (.agg ys.toArray)) = some b) :
 kQ P .eql t t2 cx cy (.agg xs.toArray) (.agg ys.toArray) = some (.bool b) :=
 kX (by simp [flat, iT, jV, hx]) (by simp [flat, iT, jV, hy]) (a2K ht) (by
  have hmd : Op.maxDepth = 9999 + 1 := by decide
  simp only [binOp, gY, Op.equal]
  rw [hmd, h, cT, kA]) rfl (by simp) (by simp) (by intro _ _ _ h; cases h)
theorem a5R {t t2 : TypeId} {cx cy : Bool} {xs ys : List Value} (b : Bool) (ht : P.eqGuardType P.depth t = false) (hx : xs.all iP = true) (hy : ys.all iP = true) (h : iA P (Op.equalIn (9999 + 1) t (.agg xs.toArray) (.agg ys.toArray)) = some b) :
 kQ P .neq t t2 cx cy (.agg xs.toArray) (.agg ys.toArray) = some (.bool (!b)) :=
 kX (by simp [flat, iT, jV, hx]) (by simp [flat, iT, jV, hy]) (a2K ht) (by
  have hmd : Op.maxDepth = 9999 + 1 := by decide
  simp only [binOp, gY, Op.equal]
  rw [hmd, h, cT, kA]) rfl (by simp) (by simp) (by intro _ _ _ h; cases h)
end
end Go.Ds
namespace Go.Ds
noncomputable section
variable {P : Program} {H : Heap}
theorem a1O (a b : ByteArray) : (a == b) = decide (b = a) := by
 obtain ⟨x⟩ := a
 obtain ⟨y⟩ := b
 rw [dP, decide_eq_true_iff]
 constructor
 ·intro h
  have e : x = y := by simpa using (show (x == y) = true from h)
  rw [e]
 ·intro h
  cases h
  show (x == x) = true
  simp
theorem a2O (o : Option Nat) (i : Nat) : o.map (i + 1 + ·) = (o.map (· + 1)).map (i + ·) := by
 cases o with
 | none => rfl
 | some j => simp only [dD]; congr 1; omega
theorem zR (k : ByteArray) : ∀ (es : List MapEntry) (ks : List ByteArray) (i : Nat), es.map (·.key) = ks.map Value.string →
 (Instr.findNow .string (.string k) (es.map vU) i).map (·.map (·.1)) = some ((ks.findIdx? fun x => decide (x = k)).map (i + ·))
 | [], [], i, _ => rfl
 | [], _ :: _, _, h => by simp at h
 | _ :: _, [], _, h => by simp at h
 | e :: es, s :: ks, i, h => by
   simp only [dU, fG] at h
   have hs : Instr.sameNow .string (.string k) e.key = some (decide (s = k)) := by
    rw [h.1]
    show some (k == s) = _
    rw [a1O]
   simp only [dU, Instr.findNow, vU, hs, eM]
   by_cases hd : s = k
   ·simp [hd]
   ·simp only [hd, decide_false, dK, if_false]
    have := zR k es ks (i + 1) h.2
    rw [a2O] at this
    exact this
theorem a9F {κ : Type} [DecidableEq κ] {enc : κ → Value} {kt : TypeId} (heq : ∀ a b, iA P (Op.equal kt (enc a) (enc b)) = some (decide (b = a))) (k : κ) : ∀ (es : List MapEntry) (ks : List κ) (i : Nat), es.map (·.key) = ks.map enc →
 (iA P (Instr.findAsking kt (enc k) (es.map vU) i)).map (·.map (·.1)) = some ((ks.findIdx? fun x => decide (x = k)).map (i + ·))
 | [], [], i, _ => rfl
 | [], _ :: _, _, h => by simp at h
 | _ :: _, [], _, h => by simp at h
 | e :: es, s :: ks, i, h => by
   simp only [dU, fG] at h
   simp only [dU, Instr.findAsking, vU, gY, eM]
   rw [h.1, heq, cT]
   by_cases hd : s = k
   ·simp [hd, kA]
   ·simp only [hd, decide_false, dK, if_false]
    have := a9F heq k es ks (i + 1) h.2
    rw [a2O] at this
    exact this
theorem MapK.str {t kt et : TypeId} {z : Value} (hm : wI P t = some (kt, et)) (hu : P.underlying kt = some .string) (hz : iS P et = some z) (hf : iT z = true) : MapK P t Value.string z where
 ex := by
  refine ⟨kt, et, hm, hz, hf, ?_, ?_, ?_⟩
  ·intro b k
   have : iA P (Instr.checkKey b 10000 kt (.string k)) = some () := by
    show iA P (Instr.checkKey b (9999 + 1) kt (.string k)) = some ()
    unfold Instr.checkKey
    rw [gY, jJ hu, cT]
    rfl
   simp only [wM, this]
   rfl
  ·intro k es ks h
   have h1 := zR k es ks 0 h
   unfold qG Instr.findKey
   rw [gY, jJ hu, cT]
   cases hn : Instr.findNow .string (.string k) (es.map vU) 0 with
   | none => rw [hn] at h1; cases h1
   | some r =>
     rw [hn] at h1
     simp only [kA]
     simpa using h1
  ·intro k
   show (k == k) = true
   rw [a1O]
   simp
theorem MapK.struct {κ : Type} [DecidableEq κ] {enc : κ → Value} {t kt et : TypeId} {z : Value} {fs : Array Field} (hm : wI P t = some (kt, et)) (hu : P.underlying kt = some (.struct fs)) (hz : iS P et = some z) (hf : iT z = true)
 (hk : ∀ b k, wM P b kt (enc k) = true) (heq : ∀ a b, iA P (Op.equal kt (enc a) (enc b)) = some (decide (b = a))) (hsb : ∀ k, Instr.sameBits 10000 (enc k) (enc k) = true) : MapK P t enc z where
 ex := by
  refine ⟨kt, et, hm, hz, hf, hk, ?_, hsb⟩
  intro k es ks h
  have h1 := a9F heq k es ks 0 h
  unfold qG Instr.findKey
  rw [gY, jJ hu, cT]
  have key : ∀ (l : List MapEntry), Instr.findNow (.struct fs) (enc k) l 0 = none ∨ l = [] := by
   intro l
   cases l with
   | nil => exact .inr rfl
   | cons e l => exact .inl rfl
  rcases key (es.map vU) with hn | hn
  ·rw [hn]
   simpa using h1
  ·rw [hn]
   have : es = [] := by simpa using hn
   subst this
   have : ks = [] := by cases ks with | nil => rfl | cons a ks => simp at h
   subst this
   rfl
end
end Go.Ds
namespace Go.Ds
noncomputable section
variable {P : Program} {H : Heap}
def a0O (o : Option (Nat × TypeId)) (P : Program) (H : Heap) (t : TypeId) (z : Value) (K : Value → Heap → Prop) (_k : Keep K := ⟨⟩) : Prop := match o with
 | none => tV (iT z) (a4d P H t z K)
 | some _ => tV (iT z) (a7v P H t z K)
theorem a3R {o o' : Option (Nat × TypeId)} {t : TypeId} {z : Value} {K : Value → Heap → Prop} (h : o = o') : a0O o P H t z K = a0O o' P H t z K := by rw [h]
attribute [congr] a3R
theorem b5q {t : TypeId} (z : Value) (K : Value → Heap → Prop) : sW P H t (some z) K = a0O (jG P t) P H t z K := by
 cases h : jG P t with
 | none => exact a5l z K h
 | some n => exact a8i z K h
theorem a6f {t : TypeId} (z : Value) (K : Value → Heap → Prop) : a0O none P H t z K = tV (iT z) (a4d P H t z K) := rfl
theorem a6V {t : TypeId} (n : Nat × TypeId) (z : Value) (K : Value → Heap → Prop) : a0O (some n) P H t z K = tV (iT z) (a7v P H t z K) := rfl
theorem a5Q {t : TypeId} {k : IntKind} (h : a0d P t = some k) : kO P t = false := by
 simp [kO, yG h]
def a2X (ks kt : Option IntKind) (P : Program) (s t : TypeId) (H : Heap) (k : IntKind) (a : Int) (K : Value → Heap → Prop) (_k : Keep K := ⟨⟩) : Prop := match ks, kt with
 | some k0, some k' => if k0 = k then K (.int k' (k'.wrap a)) H else sD P s t H (.int k a) K
 | _, _ => sD P s t H (.int k a) K
theorem a6Z {ks ks' kt kt' : Option IntKind} {s t : TypeId} {k : IntKind} {a : Int} {K : Value → Heap → Prop} (h : ks = ks') (h2 : kt = kt') : a2X ks kt P s t H k a K = a2X ks' kt' P s t H k a K := by rw [h, h2]
attribute [congr] a6Z
theorem b6u {s t : TypeId} (k : IntKind) (a : Int) (K : Value → Heap → Prop) : sD P s t H (.int k a) K = a2X (a0d P s) (a0d P t) P s t H k a K := by
 unfold a2X
 split
 ·rename_i k0 k' hs ht
  split
  ·rename_i hk
   subst hk
   rw [b0J k0 a K (a5Q ht), b1u a hs ht]
   rfl
  ·rfl
 ·rfl
theorem b1e {s t : TypeId} (k k' : IntKind) (a : Int) (K : Value → Heap → Prop) : a2X (some k) (some k') P s t H k a K = oI (.int k' (k'.wrap a)) fun v => K v H := by simp [a2X, oI]
def b9X (b : Bool) (P : Program) (H : Heap) (t : TypeId) (v : Value) : Option Value := match b with
 | true => (match v with | .string s => some (.int .i64 s.size) | _ => yZ P H t v)
 | false => yZ P H t v
theorem c0z (t : TypeId) (v : Value) : a7e none P H t v = b9X (mZ P t) P H t v := by
 unfold b9X
 split
 ·rename_i h
  split
  ·exact b4Q _ h
  ·rfl
 ·rfl
theorem b5r (t : TypeId) (s : ByteArray) : b9X true P H t (.string s) = some (.int .i64 s.size) := rfl
def a1z (b : Bool) (P : Program) (t : TypeId) (x i : Value) : Option Value := match b, x, i with
 | true, .string s, .int k i => if 0 ≤ i ∧ i < s.size then some (.int .u8 (nP s i.toNat)) else nW P t (.string s) (.int k i)
 | _, x, i => nW P t x i
theorem a5V (t : TypeId) (x i : Value) : nW P t x i = a1z (mZ P t) P t x i := by
 unfold a1z
 split
 ·rename_i h
  split
  ·rename_i h2; exact a8w _ _ _ h h2.1 h2.2
  ·rfl
 ·rfl
theorem a9b (t : TypeId) (s : ByteArray) (k : IntKind) (i : Int) (h0 : 0 ≤ i) (h1 : i < s.size) : a1z true P t (.string s) (.int k i) = some (.int .u8 (nP s i.toNat)) := by
 simp [a1z, h0, h1]
theorem OC : (∀ k n, oneCell (.int k n) = true) ∧ (∀ b, oneCell (.bool b) = true) ∧ (∀ s, oneCell (.string s) = true) ∧ (∀ a, oneCell (.pointer a) = true) ∧ (∀ a n c, oneCell (.slice a n c) = true) ∧ (∀ r, oneCell (.map r) = true) ∧ (∀ f a b, oneCell (.func f a b) = true) ∧ oneCell .nilFunc = true :=
 ⟨fun _ _ => rfl, fun _ => rfl, fun _ => rfl, fun _ => rfl, fun _ _ _ => rfl, fun _ => rfl, fun _ _ _ => rfl, rfl⟩
theorem c2J (o : Option Bool) : (o.map Value.bool).getD (.bool false) = .bool (o.getD false) := by cases o <;> rfl
theorem c2f (k : IntKind) (o : Option Int) : (o.map (Value.int k)).getD (.int k 0) = .int k (o.getD 0) := by cases o <;> rfl
theorem b7F (v : Value) (b : Bool) : pairV false v b = v := rfl
theorem b5X (v : Value) (b : Bool) : pairV true v b = .tuple #[v, .bool b] := rfl
theorem b4E (t : Tmp) : kS (.tmp t) = false := rfl
theorem a7x (v : Value) : kS (.const v) = true := rfl
theorem b5f (s : ByteArray) : flat (.string s) = true := rfl
theorem b0B (s : ByteArray) : iT (.string s) = true := rfl
theorem a9a (s : ByteArray) : iP (.string s) = true := rfl
theorem a5s (s : ByteArray) : jS (.string s) = true := rfl
theorem b3G (k : IntKind) (n : Int) : oN (.int k n) = true := rfl
theorem b1Q (b : Bool) : oN (.bool b) = true := rfl
theorem b2H (s : ByteArray) : oN (.string s) = true := rfl
theorem pG {c b : Bool} {p q : Prop} (h1 : c = true → qL (.bool true) b p q) (h2 : c = false → qL (.bool false) b p q) : qL (.bool c) b p q := by
 cases c
 ·exact h2 rfl
 ·exact h1 rfl
theorem St.pick {H0 : Base} {os os' : List Ob} (hS : St P H0 H os) (idx : List Nat) (hn : idx.Nodup) (h : idx.map (os[·]?) = os'.map some) : St P H0 H os' := by
 have hmem : ∀ o ∈ os', o ∈ os := by
  intro o ho
  have : some o ∈ idx.map (os[·]?) := by rw [h]; exact fA ho
  obtain ⟨i, _, hi⟩ := dp.1 this
  exact dE hi
 refine ⟨hS.len, hS.old, fun o ho => hS.own o (hmem o ho), fun o ho => hS.new o (hmem o ho), ?_⟩
 have hpw := eh.1 hS.sep
 rw [eh]
 intro i j hi hj hij
 have hl : idx.length = os'.length := by simpa using congrArg List.length h
 have key : ∀ i (hi : i < os'.length), ∃ hk : idx[i]'(by omega) < os.length, os[idx[i]'(by omega)] = os'[i] := by
  intro i hi
  have h1 : (idx.map (os[·]?))[i]? = (os'.map some)[i]? := by rw [h]
  rw [ew, ew, dc (by omega), dc hi] at h1
  simp only [dD, du] at h1
  exact dh.1 h1
 obtain ⟨h1, e1⟩ := key i hi
 obtain ⟨h2, e2⟩ := key j hj
 have hne : idx[i]'(by omega) ≠ idx[j]'(by omega) := by
  have := eh.1 hn i j (by omega) (by omega) hij
  exact this
 rcases fC hne with hh | hh
 ·have := hpw _ _ h1 h2 hh
  rw [e1, e2] at this
  exact this
 ·have := hpw _ _ h2 h1 hh
  rw [e1, e2] at this
  intro B hb hb'
  exact this B hb' hb
theorem St.frame {H1 : Heap} {H0 : Base} {ls rest ls' : List Ob} (hS : St P H0 H (ls ++ rest)) (h1 : St P ⟨H, qI ls⟩ H1 ls') : St P H0 H1 (ls' ++ rest) := by
 have hls : St P H0 H ls := hS.sub (List.sublist_append_left ..)
 have h2 := hls.bq h1
 have hsep := eN.1 hS.sep
 have hkeep : ∀ o ∈ rest, ∀ B, jW o.v = some B → iI H1 B = iI H B := by
  intro o ho B hB
  have hlt := (hS.own o (gb _ ho)).lt hB
  exact h1.old B hlt fun ⟨x, hx, hxb⟩ => hsep.2.2 x hx o ho B hxb hB
 refine ⟨h2.len, h2.old, ?_, ?_, ?_⟩
 ·intro o ho
  rcases dx.1 ho with ho | ho
  ·exact h2.own o ho
  ·exact (hS.own o (gb _ ho)).ai (hkeep o ho)
 ·intro o ho B hB
  rcases dx.1 ho with ho | ho
  ·exact h2.new o ho B hB
  ·exact hS.new o (gb _ ho) B hB
 ·rw [eN]
  refine ⟨h2.sep, hsep.2.1, ?_⟩
  intro x hx y hy B hb hb'
  rcases h1.new x hx B hb with hh | ⟨z, hz, hzb⟩
  ·have := (hS.own y (gb _ hy)).lt hb'
   have hh : H.length ≤ B := hh
   omega
  ·exact hsep.2.2 z hz y hy B hzb hb'
theorem b6c (t : TypeId) (k : IntKind) (n : Int) : unV P .neg t (.int k n) = some (.int k (k.wrap (0 - n))) := rfl
theorem b2e (ops : Array Oper) (d : Option Tmp) (op : Op) (ty : TypeId) (pos : String) (af : Array Edge) (j : Nat) (b : Bool) (l : List Value) (H' : Heap) (v : Value) :
 rdW P ops (some ⟨d, op, ty, pos, af, some (j, b)⟩) (some (l, H', v)) H = tU (wW ops j) l b (lM P ⟨d, op, ty, pos, af, some (j, b)⟩ l H fun v' _ => v' = v) True := by
 rw [← rN ops l d op ty pos af]
 unfold rdW
 split
 ·rename_i h1 h2
  cases h1; cases h2
  split
  ·rename_i h; simp [h]
  ·rename_i h; simp [h]
 ·rename_i h
  exact (h _ _ _ _ rfl rfl).elim
theorem b2c (t t2 : TypeId) (cx cy : Bool) (k : IntKind) (a b : Int) (K : Value → Prop) : kR P .and t t2 cx cy (.int k a) (.int k b) K = jM (kQ P .and t t2 cx cy (.int k a) (.int k b)) K := by
 have h : (if k = k then lT .and k a b else none) = none := by split <;> rfl
 unfold kR; dsimp only
 rw [h]
theorem b3k (t t2 : TypeId) (cx cy : Bool) (k : IntKind) (a b : Int) (K : Value → Prop) : kR P .or t t2 cx cy (.int k a) (.int k b) K = jM (kQ P .or t t2 cx cy (.int k a) (.int k b)) K := by
 have h : (if k = k then lT .or k a b else none) = none := by split <;> rfl
 unfold kR; dsimp only
 rw [h]
theorem b1L (t t2 : TypeId) (cx cy : Bool) (k : IntKind) (a b : Int) (K : Value → Prop) : kR P .xor t t2 cx cy (.int k a) (.int k b) K = jM (kQ P .xor t t2 cx cy (.int k a) (.int k b)) K := by
 have h : (if k = k then lT .xor k a b else none) = none := by split <;> rfl
 unfold kR; dsimp only
 rw [h]
theorem a4u (t t2 : TypeId) (cx cy : Bool) (k : IntKind) (a b : Int) (K : Value → Prop) : kR P .andNot t t2 cx cy (.int k a) (.int k b) K = jM (kQ P .andNot t t2 cx cy (.int k a) (.int k b)) K := by
 have h : (if k = k then lT .andNot k a b else none) = none := by split <;> rfl
 unfold kR; dsimp only
 rw [h]
theorem b2g (t t2 : TypeId) (cx cy : Bool) (k k' : IntKind) (a b : Int) (K : Value → Prop) : kR P .shl t t2 cx cy (.int k a) (.int k' b) K = jM (kQ P .shl t t2 cx cy (.int k a) (.int k' b)) K := by
 have h : (if k = k' then lT .shl k a b else none) = none := by split <;> rfl
 unfold kR; dsimp only
 rw [h]
theorem b2s (t t2 : TypeId) (cx cy : Bool) (k k' : IntKind) (a b : Int) (K : Value → Prop) : kR P .shr t t2 cx cy (.int k a) (.int k' b) K = jM (kQ P .shr t t2 cx cy (.int k a) (.int k' b)) K := by
 have h : (if k = k' then lT .shr k a b else none) = none := by split <;> rfl
 unfold kR; dsimp only
 rw [h]
theorem b0C (op : BinOp) (t t2 : TypeId) (cx cy : Bool) (a b : ByteArray) (K : Value → Prop) : kR P op t t2 cx cy (.string a) (.string b) K = jM (kQ P op t t2 cx cy (.string a) (.string b)) K := rfl
theorem b0z (op : BinOp) (t t2 : TypeId) (cx cy : Bool) (a b : Array Value) (K : Value → Prop) : kR P op t t2 cx cy (.agg a) (.agg b) K = jM (kQ P op t t2 cx cy (.agg a) (.agg b)) K := rfl
theorem b1g (op : BinOp) (t t2 : TypeId) (cx cy : Bool) (a b : Bool) (K : Value → Prop) : kR P op t t2 cx cy (.bool a) (.bool b) K = jM (kQ P op t t2 cx cy (.bool a) (.bool b)) K := rfl
theorem b3q (n : Int) (h1 : -9223372036854775808 ≤ n) (h2 : n < 9223372036854775808) : IntKind.wrap .i64 n = n := by
 show (if (true && decide (n % 18446744073709551616 ≥ 9223372036854775808)) = true then n % 18446744073709551616 - 18446744073709551616 else n % 18446744073709551616) = n
 simp only [gA, decide_eq_true_eq]
 omega
theorem b6n (n : Int) (h1 : -128 ≤ n) (h2 : n < 128) : IntKind.wrap .i8 n = n := by
 show (if (true && decide (n % 256 ≥ 128)) = true then n % 256 - 256 else n % 256) = n
 simp only [gA, decide_eq_true_eq]
 omega
theorem nH (n : Int) (h1 : 0 ≤ n) (h2 : n < 18446744073709551616) : IntKind.wrap .u64 n = n := by
 show (if (false && decide (n % 18446744073709551616 ≥ 9223372036854775808)) = true then n % 18446744073709551616 - 18446744073709551616 else n % 18446744073709551616) = n
 simp only [fw]
 rw [if_neg (by simp)]
 omega
theorem b4A (n : Int) (h1 : 0 ≤ n) (h2 : n < 4294967296) : IntKind.wrap .u32 n = n := by
 show (if (false && decide (n % 4294967296 ≥ 2147483648)) = true then n % 4294967296 - 4294967296 else n % 4294967296) = n
 simp only [fw]
 rw [if_neg (by simp)]
 omega
theorem b3I (n : Int) (h1 : 0 ≤ n) (h2 : n < 65536) : IntKind.wrap .u16 n = n := by
 show (if (false && decide (n % 65536 ≥ 32768)) = true then n % 65536 - 65536 else n % 65536) = n
 simp only [fw]
 rw [if_neg (by simp)]
 omega
theorem b7c (n : Int) (h1 : 0 ≤ n) (h2 : n < 256) : IntKind.wrap .u8 n = n := by
 show (if (false && decide (n % 256 ≥ 128)) = true then n % 256 - 256 else n % 256) = n
 simp only [fw]
 rw [if_neg (by simp)]
 omega
end
end Go.Ds
namespace Go.Ds
noncomputable section
variable {P : Program}
def sO (P : Program) (t : TypeId) : List Field := match P.underlying t with | some (.struct fs) => fs.toList | _ => []
def eqC : Value → Value → Bool
 | .int _ a, .int _ b => a == b
 | .bool a, .bool b => a == b
 | .string a, .string b => decide (a = b)
 | _, _ => false
def okC (P : Program) (t : TypeId) (x y : Value) : Bool := match P.underlying t with
 | some (.int _) => (match x, y with | .int k _, .int k' _ => decide (k = k') | _, _ => false)
 | some .bool => (match x, y with | .bool _, .bool _ => true | _, _ => false)
 | some .string => (match x, y with | .string _, .string _ => true | _, _ => false)
 | _ => false
theorem eq1 {t : TypeId} {x y : Value} (d : Nat) (h : okC P t x y = true) : iA P (Op.equalIn (d + 1) t x y) = some (eqC x y) := by
 unfold okC at h
 split at h
 ·rename_i k0 hu
  split at h
  ·rename_i k a k' b
   have hk : k = k' := by simpa using h
   subst hk
   rw [Op.equalIn, gY, jJ hu, cT]
   simp only [if_true]
   rfl
  ·cases h
 ·rename_i hu
  split at h
  ·rw [Op.equalIn, gY, jJ hu, cT]; rfl
  ·cases h
 ·rename_i hu
  split at h
  ·rename_i a b
   rw [Op.equalIn, gY, jJ hu, cT]
   show some (a == b) = some (decide (a = b))
   rw [a1O]
   congr 1
   simp [eq_comm]
  ·cases h
 ·cases h
theorem b8i {t : TypeId} {x y v : Value} {cs : Array Value} {off : Nat} (h : okC P t x y = true) (hc : cs[off]? = some v) : iA P (part t cs off) = some v := by
 have ha : iA P (isAgg t) = some false := by
  unfold isAgg
  unfold okC at h
  split at h
  ·rename_i hu; rw [gY, jJ hu, cT]; rfl
  ·rename_i hu; rw [gY, jJ hu, cT]; rfl
  ·rename_i hu; rw [gY, jJ hu, cT]; rfl
  ·cases h
 unfold part
 rw [gY, ha, cT]
 simp only [dK, if_false, hc]
 rfl
theorem wS {t : TypeId} {xs ys : List Value} (d : Nat) (hu : P.underlying t = some (.struct (sO P t).toArray)) (hst : P.stoodInHeld t = false)
 (hf : ((sO P t).map fun f => (f.name != "_", f.offset)) = (List.range xs.length).map fun j => (true, j)) (hy : ys.length = xs.length)
 (hok : ((sO P t).all fun f => okC P f.type (xs.getD f.offset undef) (ys.getD f.offset undef)) = true) :
 iA P (Op.equalIn (d + 2) t (.agg xs.toArray) (.agg ys.toArray)) = some ((List.range xs.length).all fun j => eqC (xs.getD j undef) (ys.getD j undef)) := by
 rw [dg] at hok
 have hmem : ∀ f ∈ sO P t, (f.name != "_") = true ∧ f.offset < xs.length := fun f hf' => by
  have : (f.name != "_", f.offset) ∈ (List.range xs.length).map fun j => (true, j) := by rw [← hf]; exact fA hf'
  obtain ⟨j, hj, he⟩ := dp.1 this
  simp only [gy] at he
  exact ⟨he.1.symm, by rw [← he.2]; exact dm.1 hj⟩
 rw [a5w hu hst (fun f => eqC (xs.getD f.offset undef) (ys.getD f.offset undef)) ?_]
 ·congr 1
  have h1 : (sO P t).all (fun f => eqC (xs.getD f.offset undef) (ys.getD f.offset undef)) = ((sO P t).map fun f => (f.name != "_", f.offset)).all fun p => eqC (xs.getD p.2 undef) (ys.getD p.2 undef) := by
   rw [List.all_map]; rfl
  rw [h1, hf, List.all_map]
  rfl
 ·intro f hf'
  obtain ⟨h1, h2⟩ := hmem f hf'
  refine ⟨by simpa using h1, ?_⟩
  have hx : xs.toArray[f.offset]? = some (xs.getD f.offset undef) := by
   rw [eV, cW, dc h2]; rfl
  have hy' : ys.toArray[f.offset]? = some (ys.getD f.offset undef) := by
   rw [eV, cW, dc (by omega)]; rfl
  rw [gY, b8i (hok f hf') hx, cT, gY, b8i (hok f hf') hy', cT]
  exact eq1 d (hok f hf')
theorem xN {t t2 : TypeId} {cx cy : Bool} {xs ys : List Value} (hu : P.underlying t = some (.struct (sO P t).toArray)) (hst : P.stoodInHeld t = false) (hg : P.eqGuardType P.depth t = false)
 (hf : ((sO P t).map fun f => (f.name != "_", f.offset)) = (List.range xs.length).map fun j => (true, j)) (hy : ys.length = xs.length)
 (hok : ((sO P t).all fun f => okC P f.type (xs.getD f.offset undef) (ys.getD f.offset undef)) = true) (hx : xs.all iP = true) (hys : ys.all iP = true) :
 kQ P .eql t t2 cx cy (.agg xs.toArray) (.agg ys.toArray) = some (.bool ((List.range xs.length).all fun j => eqC (xs.getD j undef) (ys.getD j undef))) ∧
 kQ P .neq t t2 cx cy (.agg xs.toArray) (.agg ys.toArray) = some (.bool (!((List.range xs.length).all fun j => eqC (xs.getD j undef) (ys.getD j undef)))) :=
 ⟨b4D _ hg hx hys (wS 9998 hu hst hf hy hok), a5R _ hg hx hys (wS 9998 hu hst hf hy hok)⟩
theorem c1d {t : TypeId} {k : IntKind} (hu : P.underlying t = some (.struct (sO P t).toArray)) (hst : P.stoodInHeld t = false)
 (hf : ((sO P t).map fun f => (f.name != "_", f.offset)) = (List.range 2).map fun j => (true, j))
 (hok : ∀ a b c d : Int, ((sO P t).all fun f => okC P f.type ([Value.int k a, .int k b].getD f.offset undef) ([Value.int k c, .int k d].getD f.offset undef)) = true) (a b : Int × Int) :
 iA P (Op.equal t (.agg #[.int k a.1, .int k a.2]) (.agg #[.int k b.1, .int k b.2])) = some (decide (b = a)) := by
 have hmd : Op.maxDepth = 9998 + 2 := by decide
 unfold Op.equal
 rw [hmd, wS (xs := [.int k a.1, .int k a.2]) (ys := [.int k b.1, .int k b.2]) 9998 hu hst hf rfl (hok _ _ _ _)]
 congr 1
 show ((a.1 == b.1) && ((a.2 == b.2) && true)) = _
 rw [dP]
 simp only [ff, cS, beq_iff_eq, decide_eq_true_eq, Prod.ext_iff]
 constructor
 ·rintro ⟨h1, h2⟩; exact ⟨h1.symm, h2.symm⟩
 ·rintro ⟨h1, h2⟩; exact ⟨h1.symm, h2.symm⟩
theorem c0J {k : IntKind} (a : Int × Int) : Instr.sameBits 10000 (.agg #[.int k a.1, .int k a.2]) (.agg #[.int k a.1, .int k a.2]) = true := by
 show ((2 : Nat) == 2 && ([(Value.int k a.1, Value.int k a.1), (Value.int k a.2, Value.int k a.2)]).all fun (x, y) => Instr.sameBits 9999 x y) = true
 have h : ∀ n, Instr.sameBits 9999 (.int k n) (.int k n) = true := fun n => by
  show (k == k && n == n) = true
  cases k <;> simp <;> rfl
 simp [h]
section
variable {H : Heap} {α : Type} {n : Nat} {cel : α → List Value} {v : Value} {xs : List α}
theorem Sl.aQ (h : Sl n cel H v xs) (o : Oper) (l : List Value) (H' : Heap) (k : IntKind) (a : Int) (K : Value → Heap → Prop) (h0 : 0 < xs.length) (h1 : 0 ≤ a) (h2 : a ≤ xs.length) :
 nY P o l H' (some n) v none (some (.int k a)) K = oI (pU v n 0 a.toNat) fun v => K v H' := by
 obtain ⟨m, rfl⟩ : ∃ m, n = m + 1 := ⟨n - 1, by have := h.pos; omega⟩
 exact h.rd.aQ (iL h.hc xs) o l H' k a K h0 h1 h2
theorem Sl.aP (h : Sl n cel H v xs) (o : Oper) (l : List Value) (H' : Heap) (k : IntKind) (a : Int) (K : Value → Heap → Prop) (h0 : 0 < xs.length) (h1 : 0 ≤ a) (h2 : a ≤ xs.length) :
 nY P o l H' (some n) v (some (.int k a)) none K = oI (pU v n a.toNat (xs.length - a).toNat) fun v => K v H' := by
 obtain ⟨m, rfl⟩ : ∃ m, n = m + 1 := ⟨n - 1, by have := h.pos; omega⟩
 rw [h.rd.aP (iL h.hc xs) o l H' k a K h0 h1 h2]
 congr 2
 omega
theorem Sl.sub (h : Sl n cel H v xs) (lo k : Nat) (hk : lo + k ≤ xs.length) (h0 : 0 < xs.length) : Sl n cel H (pU v n lo k) ((xs.drop lo).take k) := by
 refine ⟨?_, h.hc, h.pos⟩
 have hne : xs.flatMap cel ≠ [] := fun e => by
  have := iL h.hc xs
  rw [e, eX] at this
  have hp := gS h0 h.pos
  omega
 have := h.rd.sub lo k (by rw [iL h.hc, ← eZ]; exact dB _ hk) hne
 rw [rS h.hc, a1g h.hc] at this
 exact this
theorem Sl.cu (h : Sl n cel H v xs) (k : Nat) (hk : k ≤ xs.length) (h0 : 0 < xs.length) : Sl n cel H (pU v n 0 k) (xs.take k) := by
 simpa using h.sub 0 k (by omega) h0
theorem Sl.cw (h : Sl n cel H v xs) (lo : Nat) (hk : lo ≤ xs.length) (h0 : 0 < xs.length) : Sl n cel H (pU v n lo (xs.length - lo)) (xs.drop lo) := by
 have := h.sub lo (xs.length - lo) (by omega) h0
 rwa [List.take_of_length_le (by simp)] at this
end
def a8p (P : Program) (ts : Array TypeId) (ty : TypeId) (cx cy : Bool) (x y : Value) : Option Value := (jZ P ⟨none, .call { callee := .builtin .max, args := #[nQ cx 0 x, nQ cy 1 y], argTypes := ts }, ty, "", #[], none⟩ [x, y] .nil).map (·.1)
theorem b6v (d : Option Tmp) (ty : TypeId) (pos : String) (af : Array Edge) (g : Option (Nat × Bool)) (ts : Array TypeId) (x y : Operand) (l : List Value) (H : Heap) (K : Value → Heap → Prop) :
 lM P ⟨d, .call { callee := .builtin .max, args := #[x, y], argTypes := ts }, ty, pos, af, g⟩ l H K = iZ x l fun x' => iZ y l fun y' => jM (a8p P ts ty (kS x) (kS y) x' y') fun v => K v H := by
 have h : opD P ⟨d, .call { callee := .builtin .max, args := #[x, y], argTypes := ts }, ty, pos, af, g⟩ l H = (a8p P ts ty (kS x) (kS y) (ev l x) (ev l y)).map fun v => (v, H) :=
  mD (P := P) ⟨d, .call { callee := .builtin .max, args := #[x, y], argTypes := ts }, ty, pos, af, g⟩ ⟨none, .call { callee := .builtin .max, args := #[nQ (kS x) 0 (ev l x), nQ (kS y) 1 (ev l y)], argTypes := ts }, ty, "", #[], none⟩ l [ev l x, ev l y] H
   (by cases x <;> cases y <;> rfl) (by cases x <;> cases y <;> kernel_rfl)
 have h2 : jP ((a8p P ts ty (kS x) (kS y) (ev l x) (ev l y)).map fun v => (v, H)) K = jM (a8p P ts ty (kS x) (kS y) (ev l x) (ev l y)) fun v => K v H := by cases a8p P ts ty (kS x) (kS y) (ev l x) (ev l y) <;> rfl
 simp only [lM, h, iZ, Op.operands, Call.operands, h2]
 simp [and_assoc]
theorem b3p (ts : Array TypeId) (ty : TypeId) (cx cy : Bool) (a b : Int) : a8p P ts ty cx cy (.int .i64 a) (.int .i64 b) = some (.int .i64 (max a b)) := by
 have h : a8p P ts ty cx cy (.int .i64 a) (.int .i64 b) = some (.int .i64 (if b > a then b else a)) := by cases cx <;> cases cy <;> kernel_rfl
 rw [h]
 congr 2
 split <;> omega
def a8v (P : Program) (ts : Array TypeId) (ty : TypeId) (cx cy : Bool) (x y : Value) : Option Value := (jZ P ⟨none, .call { callee := .builtin .min, args := #[nQ cx 0 x, nQ cy 1 y], argTypes := ts }, ty, "", #[], none⟩ [x, y] .nil).map (·.1)
theorem b5L (d : Option Tmp) (ty : TypeId) (pos : String) (af : Array Edge) (g : Option (Nat × Bool)) (ts : Array TypeId) (x y : Operand) (l : List Value) (H : Heap) (K : Value → Heap → Prop) :
 lM P ⟨d, .call { callee := .builtin .min, args := #[x, y], argTypes := ts }, ty, pos, af, g⟩ l H K = iZ x l fun x' => iZ y l fun y' => jM (a8v P ts ty (kS x) (kS y) x' y') fun v => K v H := by
 have h : opD P ⟨d, .call { callee := .builtin .min, args := #[x, y], argTypes := ts }, ty, pos, af, g⟩ l H = (a8v P ts ty (kS x) (kS y) (ev l x) (ev l y)).map fun v => (v, H) :=
  mD (P := P) ⟨d, .call { callee := .builtin .min, args := #[x, y], argTypes := ts }, ty, pos, af, g⟩ ⟨none, .call { callee := .builtin .min, args := #[nQ (kS x) 0 (ev l x), nQ (kS y) 1 (ev l y)], argTypes := ts }, ty, "", #[], none⟩ l [ev l x, ev l y] H
   (by cases x <;> cases y <;> rfl) (by cases x <;> cases y <;> kernel_rfl)
 have h2 : jP ((a8v P ts ty (kS x) (kS y) (ev l x) (ev l y)).map fun v => (v, H)) K = jM (a8v P ts ty (kS x) (kS y) (ev l x) (ev l y)) fun v => K v H := by cases a8v P ts ty (kS x) (kS y) (ev l x) (ev l y) <;> rfl
 simp only [lM, h, iZ, Op.operands, Call.operands, h2]
 simp [and_assoc]
theorem b3e (ts : Array TypeId) (ty : TypeId) (cx cy : Bool) (a b : Int) : a8v P ts ty cx cy (.int .i64 a) (.int .i64 b) = some (.int .i64 (min a b)) := by
 have h : a8v P ts ty cx cy (.int .i64 a) (.int .i64 b) = some (.int .i64 (if b < a then b else a)) := by cases cx <;> cases cy <;> kernel_rfl
 rw [h]
 congr 2
 split <;> omega
section
variable {H : Heap}
def Var (H : Heap) (A n : Nat) (cs : List Value) : Prop := n = cs.length ∧ ∃ ty rw lo ver, iI H A = some (.cells cs ty rw lo ver) ∧ lo ≤ cs.length
theorem Var.ai {H' : Heap} {A n : Nat} {cs : List Value} (h : Var H A n cs) (hk : ∀ B, B < H.length → iI H' B = iI H B) : Var H' A n cs := by
 obtain ⟨h1, ty, rw, lo, ver, h2, h3⟩ := h
 exact ⟨h1, ty, rw, lo, ver, by rw [hk A (jA h2), h2], h3⟩
theorem Var.ld {A n : Nat} {cs : List Value} (h : Var H A n cs) (s : Option Nat) (off : Nat) : oP (some false) s H (ptr A off n) = cs[off]? := by
 obtain ⟨rfl, ty, rw, lo, ver, h1, h2⟩ := h
 simp only [oP, iU, h1]
 by_cases h : off < cs.length
 ·rw [if_pos (by simp; omega)]
  simp only [cT]
  rw [dH (by omega), dr]
  simp
 ·rw [if_neg (by simp; omega), dR (by omega)]
  rfl
theorem Var.aj {A n : Nat} {cs : List Value} (h : Var H A n cs) (m off : Nat) : oP (some true) (some m) H (ptr A off n) = if off + m ≤ cs.length then some (.agg ((cs.drop off).take m).toArray) else none := by
 obtain ⟨rfl, ty, rw, lo, ver, h1, h2⟩ := h
 simp only [oP, iU, h1, cT]
 by_cases h : off + m ≤ cs.length
 ·rw [if_pos (by simp; omega), if_pos h]
  rfl
 ·rw [if_neg (by simp; omega), if_neg h]
  rfl
theorem St.var {P : Program} {H0 : Base} {os : List Ob} (hS : St P H0 H os) (i : Nat) {A n : Nat} {cs : List Value} (ho : os[i]? = some ⟨ptr A 0 n, 0, cs⟩) : Var H A n cs := by
 obtain ⟨h1, ty, lo, ver, h2, h3⟩ := hS.cell i ho
 exact ⟨h1, ty, true, lo, ver, h2, h3⟩
theorem St.va {H0 : Heap} {os : List Ob} (hS : St P H0 H os) {A n : Nat} {cs : List Value} (h : Var H0 A n cs) : Var H A n cs := h.ai hS.ai
end
theorem rY {P : Program} (t t2 : TypeId) (cx cy : Bool) (u x : UInt8) : kQ P .add t t2 cx cy (.string ⟨#[u]⟩) (.string ⟨#[x]⟩) = some (.string ⟨#[u, x]⟩) := by
 rw [a5n _ _ _ _ _ _ (by show 1 + 1 < 9223372036854775808; decide)]
 rfl
theorem uF {P : Program} {H : Heap} {s t : TypeId} {v : Value} {n : Int} (h : RdAt H v 1 [.int .u8 n]) (hs : kO P s = true) (ht : mZ P t = true) (hbt : kO P t = false) (h0 : 0 ≤ n) (h1 : n < 256) (K : Value → Heap → Prop) :
 sD P s t H v K = K (.string ⟨#[UInt8.ofNat n.toNat]⟩) H := by
 obtain ⟨m, rfl⟩ : ∃ m : Nat, n = Int.ofNat m := ⟨n.toNat, by simp [fz h0]⟩
 have hm : m < 256 := by have : (m : Int) < 256 := h1; omega
 rcases h with ⟨_, h⟩ | ⟨A, i, e, row, ty, rw, lo, ver, k, g1, g2, g3, g4, g5, g6, rfl⟩
 ·cases h
 have hk : k = 1 := by simp at g6; omega
 subst hk
 have hc : iU H A i e 1 = some [.int .u8 (Int.ofNat m)] := by
  simp only [iU, g1]
  rw [if_pos (by simp at g4 ⊢; omega)]
  exact congrArg some g5
 have hb : mL [.int .u8 (Int.ofNat m)] = some ⟨#[UInt8.ofNat m]⟩ := by simp [mL, a0T, a0r, hm]
 have hd : opD P ⟨none, .convert s t (.const (.slice (some ⟨A, i, some e⟩) 1 1)), t, "", #[], none⟩ [] H = some (.string ⟨#[UInt8.ofNat m]⟩, H) := by
  have hf : flat (.slice (some ⟨A, i, some e⟩) 1 1) = false := rfl
  simp only [opD, ev, hf, hs, ht, hc, hb, fw, dK, if_false, Bool.and_self, if_true, cT, dD]
 unfold sD
 rw [hd]
 apply propext
 constructor
 ·rintro ⟨v, H1, h2, h3⟩
  injection (cR h2) with e1 e2
  subst e1 e2
  exact h3
 ·intro h3
  exact ⟨_, _, rfl, h3⟩
theorem a4h {P : Program} {t : TypeId} {n : Nat} {elem : TypeId} {size : Nat} (ha : P.underlying t = some (.array n elem)) (hs : gW P elem = some size) (A i e : Nat) (k : IntKind) (j : Int) (h0 : 0 ≤ j) (h1 : j < n) :
 vH (iK P t) P t (ptr A i e) (.int k j) = some (ptr A (i + j.toNat * size) e) := by
 have hn : iK P t = none := by simp [iK, gZ, ha]
 rw [hn]
 simp only [vH, a0v, ha, ptr, hs, cT]
 rw [if_pos (by simp [h0, h1])]
end
end Go.Ds
namespace Go.Ds
section
variable {P : Program}
def b9B (inv : List Nat) (e : Edge) : Edge := { e with on := inv.getD e.on 0 }
def wL (inv : List Nat) (o : Oper) : Oper := { o with after := o.after.map (b9B inv), guard := o.guard.map fun g => (inv.getD g.1 0, g.2) }
def jQ (π inv : List Nat) (ops : Array Oper) : Array Oper := (π.map fun i => wL inv (ops.getD i default)).toArray
def a8a (π inv : List Nat) (ops : Array Oper) : Bool :=
 decide (π.length = ops.size) && decide (inv.length = ops.size) && (List.range ops.size).all (fun i => decide (π.getD i 0 < ops.size) && decide (inv.getD i 0 < ops.size) && decide (inv.getD (π.getD i 0) 0 = i) && decide (π.getD (inv.getD i 0) 0 = i)) &&
 ops.toList.all fun o => o.after.toList.all (fun e => decide (e.on < ops.size)) && (match o.guard with | some g => decide (g.1 < ops.size) | none => true)
structure Perm (π inv : List Nat) (ops : Array Oper) : Prop where
 len : π.length = ops.size
 pi : ∀ i, i < ops.size → π.getD i 0 < ops.size
 iv : ∀ i, i < ops.size → inv.getD i 0 < ops.size
 ip : ∀ i, i < ops.size → inv.getD (π.getD i 0) 0 = i
 pv : ∀ i, i < ops.size → π.getD (inv.getD i 0) 0 = i
 edge : ∀ (i : Nat) (o : Oper), ops[i]? = some o → ∀ e ∈ o.after, e.on < ops.size
 guard : ∀ (i : Nat) (o : Oper) (g : Nat × Bool), ops[i]? = some o → o.guard = some g → g.1 < ops.size
theorem b7V {π inv : List Nat} {ops : Array Oper} (h : a8a π inv ops = true) : Perm π inv ops := by
 unfold a8a at h
 simp only [cS, decide_eq_true_eq, dg, dm] at h
 obtain ⟨⟨⟨h1, h2⟩, h3⟩, h4⟩ := h
 refine ⟨h1, fun i hi => (h3 i hi).1.1.1, fun i hi => (h3 i hi).1.1.2, fun i hi => (h3 i hi).1.2, fun i hi => (h3 i hi).2, fun i o ho e he => ?_, fun i o g ho hg => ?_⟩
 ·exact (h4 o (dE (i := i) (by simpa using ho))).1 e (by simpa using he)
 ·have := (h4 o (dE (i := i) (by simpa using ho))).2
  rw [hg] at this
  simpa using this
variable {π inv : List Nat} {ops : Array Oper}
theorem a6S (p : Nat) : (jQ π inv ops)[p]? = (π[p]?).map fun i => wL inv (ops.getD i default) := by
 simp [jQ]
theorem pP (D : Perm π inv ops) {p i : Nat} {o : Oper} (hp : p < ops.size) (hi : π.getD p 0 = i) (ho : ops[i]? = some o) : (jQ π inv ops)[p]? = some (wL inv o) := by
 rw [a6S]
 have h1 : π[p]? = some i := by
  rw [cW] at hi
  rw [dc (by rw [D.len]; exact hp)] at hi ⊢
  simpa using hi
 rw [h1]
 simp only [dD]
 rw [dO, ho]
 rfl
theorem pA (D : Perm π inv ops) : (jQ π inv ops).size = ops.size := by simp [jQ, D.len]
theorem a3y (D : Perm π inv ops) (tmps : Array Value) {j : Nat} (hj : j < ops.size) : yielded (jQ π inv ops) tmps (inv.getD j 0) = yielded ops tmps j := by
 have ho : ops[j]? = some ops[j] := cY.2 ⟨hj, rfl⟩
 unfold yielded
 rw [pP D (D.iv j hj) (D.pv j hj) ho, ho]
 rfl
theorem a5o (D : Perm π inv ops) (tmps : Array Value) {i : Nat} {o : Oper} (ho : ops[i]? = some o) : Region.wanted (wL inv o) (yielded (jQ π inv ops) tmps) = Region.wanted o (yielded ops tmps) := by
 unfold Region.wanted
 have e : (wL inv o).guard = o.guard.map fun g => (inv.getD g.1 0, g.2) := rfl
 rw [e]
 cases hg : o.guard with
 | none => rfl
 | some g =>
   simp only [dD]
   rw [a3y D tmps (D.guard i o g ho hg)]
theorem b6L (ro : Option Nat) (ρ : Operand → Value) (o : Oper) : (wL inv o).semAt ro ρ = o.semAt ro ρ := by
 obtain ⟨dst, op, type, pos, after, guard⟩ := o
 rfl
theorem b0Q (w : World) (ρ : Operand → Value) (o : Oper) : (wL inv o).about P w ρ = o.about P w ρ := by
 obtain ⟨dst, op, type, pos, after, guard⟩ := o
 rfl
theorem b3h (F : Fence) (n : Nat) (o : Oper) (a : Act) (next : Act → World → Prop) (Q : Exit → Act → World → Prop) (r : Result Next) : (wL inv o).uponIn F n P a next Q r = o.uponIn F n P a next Q r := by
 obtain ⟨dst, op, type, pos, after, guard⟩ := o
 cases r with
 | ok x w => cases x <;> rfl
 | halt x w => cases x <;> rfl
theorem b1R (D : Perm π inv ops) (F : Fence) (n : Nat) (Q : Exit → Act → World → Prop) {i : Nat} (hi : i < ops.size) (K : Act → World → Prop) (a : Act) (w : World) :
 wpOpIn F n P (jQ π inv ops) Q (inv.getD i 0) K a w = wpOpIn F n P ops Q i K a w := by
 have ho : ops[i]? = some ops[i] := cY.2 ⟨hi, rfl⟩
 unfold wpOpIn
 rw [pP D (D.iv i hi) (D.pv i hi) ho, ho]
 simp only [a5o D a.tmps ho, Oper.wpIn, b0Q, b3h, b6L]
 rfl
def c0D (inv : List Nat) (n : Nat) (listed listed' : Array Bool) : Prop := listed.size = n ∧ listed'.size = n ∧ ∀ i, i < n → listed.getD i false = listed'.getD (inv.getD i 0) false
theorem vO (D : Perm π inv ops) {listed listed' : Array Bool} (hc : c0D inv ops.size listed listed') {i : Nat} (hi : i < ops.size) :
 i ∈ Region.ready .any ops listed ↔ inv.getD i 0 ∈ Region.ready .any (jQ π inv ops) listed' := by
 have ho : ops[i]? = some ops[i] := cY.2 ⟨hi, rfl⟩
 have ho' := pP D (D.iv i hi) (D.pv i hi) ho
 have hsz := pA D
 obtain ⟨c1, c2, c3⟩ := hc
 constructor
 ·intro h
  obtain ⟨o, h1, h2, h3⟩ := oB c1 h
  rw [ho] at h1
  obtain rfl := cR h1
  refine yR (by rw [hsz]; exact c2) ho' (by rw [← c3 i hi]; exact h2) ?_
  intro e he hb
  have he' : e ∈ (ops[i]).after.map (b9B inv) := he
  obtain ⟨e0, he0, rfl⟩ := Array.mem_map.1 he'
  have := h3 e0 he0 hb
  show listed'.getD (inv.getD e0.on 0) false = true
  rw [← c3 _ (D.edge i _ ho e0 he0)]
  exact this
 ·intro h
  obtain ⟨o, h1, h2, h3⟩ := oB (by rw [hsz]; exact c2) h
  rw [ho'] at h1
  obtain rfl := cR h1
  refine yR c1 ho (by rw [c3 i hi]; exact h2) ?_
  intro e he hb
  have := h3 (b9B inv e) (Array.mem_map.2 ⟨e, he, rfl⟩) hb
  rw [c3 _ (D.edge i _ ho e he)]
  exact this
theorem b5c (D : Perm π inv ops) (F : Fence) (k : Nat) {Q : Exit → Act → World → Prop} : ∀ (fuel : Nat) (listed listed' : Array Bool) (a : Act) (w : World), c0D inv ops.size listed listed' →
 wpAnyIn F k P .any (jQ π inv ops) Q fuel listed' a w → wpAnyIn F k P .any ops Q fuel listed a w := by
 have hsz := pA D
 have nil1 : ∀ {listed listed' : Array Bool}, c0D inv ops.size listed listed' → (Region.ready .any ops listed = [] ↔ Region.ready .any (jQ π inv ops) listed' = []) := by
  intro listed listed' hc
  constructor
  ·intro h
   cases hr : Region.ready .any (jQ π inv ops) listed' with
   | nil => rfl
   | cons p r =>
     exfalso
     have hp : p ∈ Region.ready .any (jQ π inv ops) listed' := by rw [hr]; exact dL ..
     obtain ⟨o, h1, _, _⟩ := oB (by rw [hsz]; exact hc.2.1) hp
     have hpn : p < ops.size := by rw [← hsz]; exact (cY.1 h1).1
     have := (vO D hc (D.pi p hpn)).2 (by rw [D.ip p hpn]; exact hp)
     rw [h] at this
     cases this
  ·intro h
   cases hr : Region.ready .any ops listed with
   | nil => rfl
   | cons i r =>
     exfalso
     have hi : i ∈ Region.ready .any ops listed := by rw [hr]; exact dL ..
     obtain ⟨o, h1, _, _⟩ := oB hc.1 hi
     have := (vO D hc (cY.1 h1).1).1 hi
     rw [h] at this
     cases this
 intro fuel
 induction fuel with
 | zero =>
   intro listed listed' a w hc h
   exact ⟨(nil1 hc).2 h.1, h.2⟩
 | succ fuel ih =>
   intro listed listed' a w hc h
   refine ⟨fun hn => h.1 ((nil1 hc).1 hn), fun i hi => ?_⟩
   obtain ⟨o, h1, _, _⟩ := oB hc.1 hi
   have hin := (cY.1 h1).1
   have h2 := h.2 _ ((vO D hc hin).1 hi)
   rw [b1R D F k Q hin] at h2
   refine wpOpIn_mono (fun a' w' h3 => ih _ _ a' w' ⟨by simpa using hc.1, by simpa using hc.2.1, fun j hj => ?_⟩ h3) h2
   have e1 := rC (listed := listed) (i := i) (by rw [hc.1]; exact hin) j
   have e2 := rC (listed := listed') (i := inv.getD i 0) (by rw [hc.2.1]; exact D.iv i hin) (inv.getD j 0)
   have e3 : (inv.getD j 0 = inv.getD i 0) ↔ j = i := ⟨fun h => by rw [← D.pv j hj, h, D.pv i hin], fun h => by rw [h]⟩
   rw [dP, e1, e2, e3, hc.2.2 j hj]
end
section
variable {P : Program} {H : Heap} {π inv : List Nat} {ops : Array Oper}
theorem Sim.cz (jU : P.follows .mixedOrders = true) {id : Nat} (Dp : Perm π inv ops) {fl : Fl} (D : Draw P fl (jQ π inv ops)) {T : Nat → List Value × Heap} {val : Nat → Value} (X : Text P (jQ π inv ops) T val)
 (hread : ∀ i m o, (i, m) ∈ lR fl (jQ π inv ops) → (jQ π inv ops)[i]? = some o → Region.wanted o (iM (jQ π inv ops) (T i).1) = true → ∃ H2, opD P o (T i).1 (T m).2 = some (val i, H2)) :
 Sim P (.region id ops true) (T 0).1 (T 0).2 .normal (T ops.size).1 (T ops.size).2 := by
 intro ro k B ρ w a hr hE hl hM hB
 have hsz := pA Dp
 have := a3h D X hread ro k B hr hE hM
 rw [hsz] at this
 exact wpIn_region_any jU (b5c Dp (fe ro) k ops.size _ _ a _ ⟨by simp, by simp, fun i hi => by
  have := Dp.iv i hi
  simp only [dO, Array.getElem?_replicate, hi, this, if_true]⟩ this)
theorem a2c (D : Perm π inv ops) (l : List Value) {j : Nat} (hj : j < ops.size) : iM (jQ π inv ops) l (inv.getD j 0) = iM ops l j := by
 have ho : ops[j]? = some ops[j] := cY.2 ⟨hj, rfl⟩
 unfold iM
 rw [pP D (D.iv j hj) (D.pv j hj) ho, ho]
 rfl
theorem xC (D : Perm π inv ops) (l : List Value) {i : Nat} {o : Oper} (ho : ops[i]? = some o) : Region.wanted (wL inv o) (iM (jQ π inv ops) l) = Region.wanted o (iM ops l) := by
 unfold Region.wanted
 have e : (wL inv o).guard = o.guard.map fun g => (inv.getD g.1 0, g.2) := rfl
 rw [e]
 cases hg : o.guard with
 | none => rfl
 | some g =>
   simp only [dD]
   rw [a2c D l (D.guard i o g ho hg)]
theorem b0b (o : Oper) (l : List Value) (K : Value → Heap → Prop) : lM P (wL inv o) l H K = lM P o l H K := by
 obtain ⟨dst, op, type, pos, after, guard⟩ := o
 rfl
theorem a2W (D : Perm π inv ops) : ∀ (os : List Oper) (tr : List (List Value × Heap × Value)) (l : List Value) (H : Heap) (K : List (List Value × Heap × Value) → List Value → Heap → Prop), (∀ o ∈ os, ∃ i : Nat, ops[i]? = some o) →
 lS P (jQ π inv ops) (os.map (wL inv)) tr l H K = lS P ops os tr l H K
 | [], _, _, _, _, _ => rfl
 | o :: os, tr, l, H, K, h => by
   obtain ⟨i, ho⟩ := h o (by simp)
   have ih := fun tr l H => a2W D os tr l H K fun o ho => h o (by simp [ho])
   rw [dU, lS, lS, xC D l ho]
   have e : (wL inv o).dst = o.dst := rfl
   simp only [b0b, e, ih]
def b9z (o : Option Oper) (os : List Oper) : List Oper := match o with | some o => o :: os | none => os
def sel (os : List Oper) : List Nat → List Oper
 | [] => []
 | i :: π => b9z os[i]? (sel os π)
theorem b6J (os : List Oper) : sel os [] = [] := rfl
theorem a4H (os : List Oper) (i : Nat) (π : List Nat) : sel os (i :: π) = b9z os[i]? (sel os π) := rfl
theorem a2x (o : Oper) (os : List Oper) : b9z (some o) os = o :: os := rfl
theorem a7C (os : List Oper) : ∀ (π : List Nat), (∀ i ∈ π, i < os.length) → sel os π = π.map fun i => os.toArray.getD i default
 | [], _ => rfl
 | i :: π, h => by
   have hi := h i (by simp)
   rw [a4H, a7C os π fun j hj => h j (by simp [hj]), dc hi, a2x, dU]
   congr 1
   simp [dO, hi]
def yJ (P : Program) (os : List Oper) (tr : List (List Value × Heap × Value)) (H1 : Heap) (π : List Nat) : List (Nat × Nat) → Prop
 | [] => True
 | (p, m) :: r => rdW P os.toArray (os[π.getD p 0]?) tr[p]? (trH tr[m]? H1) ∧ yJ P os tr H1 π r
theorem a7E (os : List Oper) (tr) (H1 : Heap) (π : List Nat) : yJ P os tr H1 π [] = True := rfl
theorem a4J (os : List Oper) (tr) (H1 : Heap) (π : List Nat) (p m : Nat) (r : List (Nat × Nat)) : yJ P os tr H1 π ((p, m) :: r) = (rdW P os.toArray (os[π.getD p 0]?) tr[p]? (trH tr[m]? H1) ∧ yJ P os tr H1 π r) := rfl
theorem a1o {os : List Oper} {tr} {H1 : Heap} {π : List Nat} : ∀ {tab : List (Nat × Nat)}, yJ P os tr H1 π tab → ∀ x ∈ tab, rdW P os.toArray (os[π.getD x.1 0]?) tr[x.1]? (trH tr[x.2]? H1)
 | [], _, x, hx => by cases hx
 | (i, m) :: r, h, x, hx => by
   rcases dJ.1 hx with rfl | hx
   ·exact h.1
   ·exact a1o h.2 x hx
theorem Wp.cb (jU : P.follows .mixedOrders = true) {id : Nat} {os : List Oper} {l : List Value} {Q : mV} (π inv : List Nat) (fl : Fl) (tab : List (Nat × Nat)) (hp : a8a π inv os.toArray = true)
 (htab : a1q P fl (jQ π inv os.toArray) = some tab) (hn : tJ (jQ π inv os.toArray) tab = true)
 (h : lS P os.toArray (sel os π) [] l H fun tr l1 H1 => Q .normal l1 H1 ∧ yJ P os tr H1 π tab) : Wp P (.region id os.toArray true) l H Q := by
 have Dp := b7V hp
 obtain ⟨D, htb⟩ := a2d htab
 have hsz := pA Dp
 have hmem : ∀ i ∈ π, i < os.length := fun i hi => by
  obtain ⟨p, hpl, hpe⟩ := dQ.1 hi
  have := Dp.pi p (by rw [← Dp.len]; exact hpl)
  rw [cW, dc hpl, eS, hpe] at this
  simpa using this
 have hsel : (sel os π).map (wL inv) = (jQ π inv os.toArray).toList := by
  rw [a7C os π hmem]
  simp [jQ]
 rw [← a2W Dp (sel os π) [] l H _ (fun o ho => by
  rw [a7C os π hmem, dp] at ho
  obtain ⟨i, hi, rfl⟩ := ho
  have := hmem i hi
  exact ⟨i, by simp [dO, this]⟩), hsel] at h
 obtain ⟨T, val, l', H', ext, h0, h1, h2, h3, h4, h5, h6⟩ := tL (jQ π inv os.toArray).toList 0 rfl [] l H h
 have hlen : (jQ π inv os.toArray).toList.length = os.toArray.size := by rw [fi, hsz]
 rw [hlen] at h1 h2 h3 h4
 have := Sim.cz jU (id := id) Dp D (T := T) (val := val) ⟨fun k hk => by rw [hsz] at hk; simpa using h4 k hk⟩ fun i m o hm ho hw => by
  rw [← htb] at hm
  have hr := a1o h6 (i, m) hm
  have hi : i < os.toArray.size := by rw [← hsz]; exact (cY.1 ho).1
  have hpi := Dp.pi i hi
  have hoo : os.toArray[π.getD i 0]? = some (os.toArray[π.getD i 0]) := cY.2 ⟨hpi, rfl⟩
  have hat := pP (inv := inv) Dp hi rfl hoo
  rw [ho] at hat
  have hat := cR hat
  have hoo' : os[π.getD i 0]? = some (os.toArray[π.getD i 0]) := by rw [← hoo]; simp
  simp only [eW] at hr
  rw [hoo', h3 i hi] at hr
  unfold rdW at hr
  rw [hat, xC Dp _ hoo] at hw
  have hr := hr hw
  have hno : vY o = true := by
   unfold tJ at hn
   have := dg.1 hn (i, m) hm
   simpa [ho] using this
  have hTm : trH ext[m]? H' = (T m).2 ∨ os.toArray.size < m := by
   unfold trH
   by_cases hm2 : m < os.toArray.size
   ·left; rw [h3 m hm2]
   ·by_cases hm3 : m = os.toArray.size
    ·left
     rw [dR (by omega), hm3, h1]
    ·right; omega
  rcases hTm with hTm | hTm
  ·rw [hTm, ← b0b (inv := inv), ← hat] at hr
   obtain ⟨v, H2, h7, h8⟩ := b0g hno hr
   exact ⟨H2, by rw [h7, h8]⟩
  ·exfalso
   rw [htb] at hm
   have := a1e hm
   rw [hsz] at this
   omega
 rw [h0, h1] at this
 exact ⟨_, _, _, this, h5⟩
end
def RA :=
 And.intro @b6G <| And.intro @b3l <| And.intro @b6i <| And.intro @b9a <| And.intro @b9L <| And.intro @b2z <| And.intro @b7P <| And.intro @b9E <| And.intro @b6Q <| And.intro @b7b <| And.intro @b4i <| And.intro @a4Y <| And.intro @b0M <| And.intro @b4Z <| And.intro @b1S <| And.intro @a7M <| And.intro @a9e <| And.intro @a6G <| And.intro @b2R <| And.intro @a7n <| And.intro @b4N <| And.intro @b4n <| And.intro @b1F <| And.intro @b0A <| And.intro @b5R <| And.intro @b1T <| And.intro @a1E <| And.intro @a1Z <| And.intro @a7m <| And.intro @b2N <| And.intro @b0I <| And.intro @b8h <| And.intro @a2o <| And.intro @a2f <| And.intro @b4B <| And.intro @b9j <| And.intro @a6R <| And.intro @a5O <| And.intro @b0q <| And.intro @b3u <| And.intro @a3O <| And.intro @a8l <| And.intro @a7j <| And.intro @a8I <| And.intro @a7H <| And.intro @a6q <| And.intro @a2m <| And.intro @a4q <| And.intro @a1m <| And.intro @b0P <| And.intro @b6v <| And.intro @b5L <| And.intro @b2C <| And.intro @a8Y <| And.intro @b0O <| And.intro @b1q <| And.intro @a7r <| And.intro @a7I <| And.intro @a4U <| And.intro @a6L <| And.intro @b4w <| And.intro @b0s <| And.intro @a2u <| And.intro @a8e <| And.intro @a6Y <| And.intro @a2v <| And.intro @a4O <| And.intro @a9c <| And.intro @a4W <| @b4S
def RB :=
 And.intro @b7h <| And.intro @a8n <| And.intro @a8L <| And.intro @b2q <| And.intro @a7w <| And.intro @a5N <| And.intro @a5m <| And.intro @b5q <| And.intro @a6f <| And.intro @a6V <| And.intro @b6u <| And.intro @b1e <| And.intro @a8D <| And.intro @b6T <| And.intro @b7d <| And.intro @b6t <| And.intro @b5U <| And.intro @a8q <| And.intro @a6s <| And.intro @b6f <| And.intro @c0z <| And.intro @b5r <| And.intro @a5V <| And.intro @a9b <| And.intro @b7y <| And.intro @b7t <| And.intro @b4W <| And.intro @b1m <| And.intro @b1d <| And.intro @b1x <| And.intro @b1A <| And.intro @b0T <| And.intro @b1H <| And.intro @b0G <| And.intro @b2p <| And.intro @b0u <| And.intro @b0D <| And.intro @b2d <| And.intro @b2c <| And.intro @b3k <| And.intro @b1L <| And.intro @a4u <| And.intro @b2g <| And.intro @b2s <| And.intro @b0C <| And.intro @b0z <| And.intro @b1g <| And.intro @b2B <| And.intro @b5p <| And.intro @b5v <| And.intro @b7A <| And.intro @b2A <| And.intro @a6g <| And.intro @a8t <| And.intro @a9g <| And.intro @b6s <| And.intro @b4u <| And.intro @a6H <| And.intro @b4h <| And.intro @b2I <| And.intro @b1J <| And.intro @a7P <| And.intro @b5f <| And.intro @b1s <| And.intro @a8M <| And.intro @b0B <| And.intro @b4R <| And.intro @a8E <| And.intro @b1B <| And.intro @b1I <| And.intro @a7X <| And.intro @b1l <| And.intro @a7F <| And.intro @b6J <| And.intro @a4H <| And.intro @a2x <| And.intro @a7E <| And.intro @a4J <| And.intro @b6o <| And.intro @b5z <| And.intro @b2e <| And.intro @b5b <| And.intro @b3w <| And.intro @b2b <| And.intro @b5l <| And.intro @b2l <| And.intro @a3U <| And.intro @a7u <| And.intro @a6b <| And.intro @a8o <| And.intro @a9a <| And.intro @b4C <| And.intro @b3G <| And.intro @b1Q <| And.intro @b2H <| And.intro @a6d <| And.intro @a3w <| And.intro @a4Z <| And.intro @a5U <| And.intro @a5s <| And.intro @c2J <| And.intro @c2f <| And.intro @b7F <| And.intro @b5X <| And.intro @b3p <| And.intro @b3e <| And.intro @b4E <| And.intro @a7x <| And.intro @b6c <| And.intro @b3q <| And.intro @b6n <| And.intro @nH <| And.intro @b4A <| And.intro @b3I <| @b7c
theorem RT :
 (∀ {α : Type} (l : List α), [] ++ l = l) ∧
 (∀ {α : Type} (l : List α), l ++ [] = l) ∧
 (∀ {α : Type} {a : α} {l m : List α}, a :: l ++ m = a :: (l ++ m)) ∧
 (∀ (cs : List Value) (i : Nat) (v : Value) (vs : List Value), iQ cs i (v :: vs) = iQ (cs.set i v) (i + 1) vs) ∧
 (∀ (cs : List Value) (i : Nat), iQ cs i [] = cs) ∧
 (∀ {α : Type} {x : α} {xs : List α} {a : α}, (x :: xs).set 0 a = a :: xs) ∧
 (∀ {α : Type} {x : α} {xs : List α} {i : Nat} {a : α}, (x :: xs).set (i + 1) a = x :: xs.set i a) ∧
 (∀ (n : Nat), 0 + n = n) ∧
 (∀ (n : Nat), n * 1 = n) ∧
 (∀ (n : Nat), n + 0 = n) :=
 ⟨@List.nil_append, @List.append_nil, @List.cons_append, @oY, @tG, @List.set_cons_zero, @List.set_cons_succ, @Nat.zero_add, @Nat.mul_one, @Nat.add_zero⟩
end Go.Ds
namespace Go.Ds
open Go.Proofs Go.Proofs.Tryz
abbrev I (n : Int) : Value := .int .i64 n
theorem sR (H : Heap) : St prog H H [] := .refl ..
theorem jU : prog.follows .mixedOrders = true := by kernel_rfl
theorem tS3 : gW prog 3 = some 1 := by kernel_rfl
theorem b6a : gW prog 26 = some 3 := by kernel_rfl
theorem c0O : gW prog 27 = some 5 := by kernel_rfl
theorem b9V : gW prog 29 = some 3 := by kernel_rfl
theorem c1r : gW prog 32 = some 1 := by kernel_rfl
theorem c1w : gW prog 33 = some 1 := by kernel_rfl
theorem b8d : gW prog 34 = some 1 := by kernel_rfl
theorem mT : gW prog 36 = some 4 := by kernel_rfl
theorem c1Y : gW prog 38 = some 1 := by kernel_rfl
theorem b7S : gW prog 39 = some 1 := by kernel_rfl
theorem qP : gW prog 41 = some 3 := by kernel_rfl
theorem a8x : gW prog 46 = some 1 := by kernel_rfl
theorem nR : gW prog 52 = some 2 := by kernel_rfl
theorem vV : gW prog 70 = some 2 := by kernel_rfl
theorem yM : gW prog 88 = some 2 := by kernel_rfl
theorem b7z : gW prog 89 = some 1 := by kernel_rfl
theorem wT : gW prog 91 = some 6 := by kernel_rfl
theorem lA : gW prog 100 = some 2 := by kernel_rfl
theorem a9K : gW prog 105 = some 4 := by kernel_rfl
theorem b4c : gW prog 109 = some 9 := by kernel_rfl
theorem sC : gW prog 112 = some 2 := by kernel_rfl
theorem b8o : gW prog 113 = some 1 := by kernel_rfl
theorem sB : gW prog 115 = some 5 := by kernel_rfl
theorem uL : gW prog 116 = some 1 := by kernel_rfl
theorem nV : gW prog 118 = some 4 := by kernel_rfl
theorem b3n : gW prog 121 = some 4 := by kernel_rfl
theorem a9U : gW prog 123 = some 4 := by kernel_rfl
theorem sK : gW prog 125 = some 5 := by kernel_rfl
theorem a0P : gW prog 150 = some 3 := by kernel_rfl
theorem zV : gW prog 152 = some 2 := by kernel_rfl
theorem b5x : gW prog 173 = some 1 := by kernel_rfl
theorem a9G : gW prog 194 = some 3 := by kernel_rfl
theorem c0j : iK prog 89 = some 1 := by kernel_rfl
theorem mN : kO prog 110 = true ∧ mZ prog 9 = true ∧ kO prog 9 = false := ⟨by kernel_rfl, by kernel_rfl, by kernel_rfl⟩
theorem c4U (A i e : Nat) (k : IntKind) (j : Int) (h0 : 0 ≤ j) (h1 : j < 5) : vH (iK prog 27) prog 27 (ptr A i e) (.int k j) = some (ptr A (i + j.toNat * 1) e) := a4h (n := 5) (elem := 5) (size := 1) (by kernel_rfl) (by kernel_rfl) A i e k j h0 h1
theorem c4j (A i e : Nat) (k : IntKind) (j : Int) (h0 : 0 ≤ j) (h1 : j < 3) : vH (iK prog 29) prog 29 (ptr A i e) (.int k j) = some (ptr A (i + j.toNat * 1) e) := a4h (n := 3) (elem := 28) (size := 1) (by kernel_rfl) (by kernel_rfl) A i e k j h0 h1
theorem c2K (A i e : Nat) (k : IntKind) (j : Int) (h0 : 0 ≤ j) (h1 : j < 64) : vH (iK prog 251) prog 251 (ptr A i e) (.int k j) = some (ptr A (i + j.toNat * 1) e) := a4h (n := 64) (elem := 5) (size := 1) (by kernel_rfl) (by kernel_rfl) A i e k j h0 h1
theorem c0K : mM prog 32 = some (6, 80) := by kernel_rfl
theorem c2X : ((gZ prog 32).bind (iS prog)).any iT = true := by kernel_rfl
theorem c1b : mM prog 33 = some (5, 64) := by kernel_rfl
theorem c3d : ((gZ prog 33).bind (iS prog)).any iT = true := by kernel_rfl
theorem a9m : mM prog 34 = some (5, 48) := by kernel_rfl
theorem b7R : ((gZ prog 34).bind (iS prog)).any iT = true := by kernel_rfl
theorem c0P : mM prog 38 = some (1, 8) := by kernel_rfl
theorem c1m : ((gZ prog 38).bind (iS prog)).any iT = true := by kernel_rfl
theorem b3U : mM prog 44 = some (2, 16) := by kernel_rfl
theorem c1h : ((gZ prog 44).bind (iS prog)).any iT = true := by kernel_rfl
theorem qM : mM prog 46 = some (2, 16) := by kernel_rfl
theorem a2k : ((gZ prog 46).bind (iS prog)).any iT = true := by kernel_rfl
theorem b6h : mM prog 58 = some (2, 16) := by kernel_rfl
theorem c2M : ((gZ prog 58).bind (iS prog)).any iT = true := by kernel_rfl
theorem b9P : mM prog 83 = some (3, 24) := by kernel_rfl
theorem c2y : ((gZ prog 83).bind (iS prog)).any iT = true := by kernel_rfl
theorem a0N : mM prog 89 = some (1, 8) := by kernel_rfl
theorem a5H : ((gZ prog 89).bind (iS prog)).any iT = true := by kernel_rfl
theorem a9I : mM prog 110 = some (1, 1) := by kernel_rfl
theorem a9Y : ((gZ prog 110).bind (iS prog)).any iT = true := by kernel_rfl
theorem b4L : mM prog 113 = some (4, 56) := by kernel_rfl
theorem b8r : ((gZ prog 113).bind (iS prog)).any iT = true := by kernel_rfl
theorem oS : mM prog 116 = some (3, 40) := by kernel_rfl
theorem uS : ((gZ prog 116).bind (iS prog)).any iT = true := by kernel_rfl
theorem b8u : mM prog 127 = some (3, 40) := by kernel_rfl
theorem b8B : ((gZ prog 127).bind (iS prog)).any iT = true := by kernel_rfl
theorem a3b : mM prog 148 = some (2, 16) := by kernel_rfl
theorem a3g : ((gZ prog 148).bind (iS prog)).any iT = true := by kernel_rfl
theorem c1Q : mM prog 155 = some (1, 16) := by kernel_rfl
theorem c3f : ((gZ prog 155).bind (iS prog)).any iT = true := by kernel_rfl
theorem b8V : mM prog 156 = some (2, 16) := by kernel_rfl
theorem c2n : ((gZ prog 156).bind (iS prog)).any iT = true := by kernel_rfl
theorem b8H : mM prog 205 = some (2, 16) := by kernel_rfl
theorem b8n : ((gZ prog 205).bind (iS prog)).any iT = true := by kernel_rfl
theorem c4m : c0F prog 89 = some (8, .int .i64 0) := by kernel_rfl
theorem c1E (t2 : TypeId) (cx cy : Bool) (a0 : Int) (a1 : Int) (b0 : Int) (b1 : Int) : kQ prog .eql 52 t2 cx cy (.agg #[.int .i64 a0, .int .i64 a1]) (.agg #[.int .i64 b0, .int .i64 b1]) = some (.bool (decide (a0 = b0 ∧ a1 = b1))) ∧ kQ prog .neq 52 t2 cx cy (.agg #[.int .i64 a0, .int .i64 a1]) (.agg #[.int .i64 b0, .int .i64 b1]) = some (.bool (decide (¬ (a0 = b0 ∧ a1 = b1)))) := by
 have h := xN (P := prog) (t := 52) (t2 := t2) (cx := cx) (cy := cy) (xs := [.int .i64 a0, .int .i64 a1]) (ys := [.int .i64 b0, .int .i64 b1]) (by kernel_rfl) (by kernel_rfl) (by kernel_rfl) (by kernel_rfl) rfl (by kernel_rfl) rfl rfl
 have e : ((List.range [Value.int .i64 a0, .int .i64 a1].length).all fun j => eqC ([Value.int .i64 a0, .int .i64 a1].getD j undef) ([Value.int .i64 b0, .int .i64 b1].getD j undef)) = decide (a0 = b0 ∧ a1 = b1) := by
  show (eqC (Value.int .i64 a0) (.int .i64 b0) && (eqC (Value.int .i64 a1) (.int .i64 b1) && true)) = _
  rw [dP]
  simp [eqC]
 rw [e] at h
 exact ⟨h.1, by rw [h.2]; simp⟩
theorem c1J (t2 : TypeId) (cx cy : Bool) (a0 : Int) (a1 : Int) (b0 : Int) (b1 : Int) : kQ prog .eql 52 t2 cx cy (.agg #[.int .i64 a0, .int .i64 a1]) (.agg #[.int .i64 b0, .int .i64 b1]) = some (.bool (decide (a0 = b0 ∧ a1 = b1))) := (c1E t2 cx cy a0 a1 b0 b1).1
theorem c2H (t2 : TypeId) (cx cy : Bool) (a0 : Int) (a1 : Int) (b0 : Int) (b1 : Int) : kQ prog .neq 52 t2 cx cy (.agg #[.int .i64 a0, .int .i64 a1]) (.agg #[.int .i64 b0, .int .i64 b1]) = some (.bool (decide (¬ (a0 = b0 ∧ a1 = b1)))) := (c1E t2 cx cy a0 a1 b0 b1).2
theorem c1U (t2 : TypeId) (cx cy : Bool) (a0 : Int) (a1 : Int) (b0 : Int) (b1 : Int) : kQ prog .eql 70 t2 cx cy (.agg #[.int .i64 a0, .int .i64 a1]) (.agg #[.int .i64 b0, .int .i64 b1]) = some (.bool (decide (a0 = b0 ∧ a1 = b1))) ∧ kQ prog .neq 70 t2 cx cy (.agg #[.int .i64 a0, .int .i64 a1]) (.agg #[.int .i64 b0, .int .i64 b1]) = some (.bool (decide (¬ (a0 = b0 ∧ a1 = b1)))) := by
 have h := xN (P := prog) (t := 70) (t2 := t2) (cx := cx) (cy := cy) (xs := [.int .i64 a0, .int .i64 a1]) (ys := [.int .i64 b0, .int .i64 b1]) (by kernel_rfl) (by kernel_rfl) (by kernel_rfl) (by kernel_rfl) rfl (by kernel_rfl) rfl rfl
 have e : ((List.range [Value.int .i64 a0, .int .i64 a1].length).all fun j => eqC ([Value.int .i64 a0, .int .i64 a1].getD j undef) ([Value.int .i64 b0, .int .i64 b1].getD j undef)) = decide (a0 = b0 ∧ a1 = b1) := by
  show (eqC (Value.int .i64 a0) (.int .i64 b0) && (eqC (Value.int .i64 a1) (.int .i64 b1) && true)) = _
  rw [dP]
  simp [eqC]
 rw [e] at h
 exact ⟨h.1, by rw [h.2]; simp⟩
theorem c1x (t2 : TypeId) (cx cy : Bool) (a0 : Int) (a1 : Int) (b0 : Int) (b1 : Int) : kQ prog .eql 70 t2 cx cy (.agg #[.int .i64 a0, .int .i64 a1]) (.agg #[.int .i64 b0, .int .i64 b1]) = some (.bool (decide (a0 = b0 ∧ a1 = b1))) := (c1U t2 cx cy a0 a1 b0 b1).1
theorem c1R (t2 : TypeId) (cx cy : Bool) (a0 : Int) (a1 : Int) (b0 : Int) (b1 : Int) : kQ prog .neq 70 t2 cx cy (.agg #[.int .i64 a0, .int .i64 a1]) (.agg #[.int .i64 b0, .int .i64 b1]) = some (.bool (decide (¬ (a0 = b0 ∧ a1 = b1)))) := (c1U t2 cx cy a0 a1 b0 b1).2
theorem b8k (t2 : TypeId) (cx cy : Bool) (a0 : Int) (a1 : Int) (b0 : Int) (b1 : Int) : kQ prog .eql 100 t2 cx cy (.agg #[.int .u64 a0, .int .u64 a1]) (.agg #[.int .u64 b0, .int .u64 b1]) = some (.bool (decide (a0 = b0 ∧ a1 = b1))) ∧ kQ prog .neq 100 t2 cx cy (.agg #[.int .u64 a0, .int .u64 a1]) (.agg #[.int .u64 b0, .int .u64 b1]) = some (.bool (decide (¬ (a0 = b0 ∧ a1 = b1)))) := by
 have h := xN (P := prog) (t := 100) (t2 := t2) (cx := cx) (cy := cy) (xs := [.int .u64 a0, .int .u64 a1]) (ys := [.int .u64 b0, .int .u64 b1]) (by kernel_rfl) (by kernel_rfl) (by kernel_rfl) (by kernel_rfl) rfl (by kernel_rfl) rfl rfl
 have e : ((List.range [Value.int .u64 a0, .int .u64 a1].length).all fun j => eqC ([Value.int .u64 a0, .int .u64 a1].getD j undef) ([Value.int .u64 b0, .int .u64 b1].getD j undef)) = decide (a0 = b0 ∧ a1 = b1) := by
  show (eqC (Value.int .u64 a0) (.int .u64 b0) && (eqC (Value.int .u64 a1) (.int .u64 b1) && true)) = _
  rw [dP]
  simp [eqC]
 rw [e] at h
 exact ⟨h.1, by rw [h.2]; simp⟩
theorem b9b (t2 : TypeId) (cx cy : Bool) (a0 : Int) (a1 : Int) (b0 : Int) (b1 : Int) : kQ prog .eql 100 t2 cx cy (.agg #[.int .u64 a0, .int .u64 a1]) (.agg #[.int .u64 b0, .int .u64 b1]) = some (.bool (decide (a0 = b0 ∧ a1 = b1))) := (b8k t2 cx cy a0 a1 b0 b1).1
theorem b8Z (t2 : TypeId) (cx cy : Bool) (a0 : Int) (a1 : Int) (b0 : Int) (b1 : Int) : kQ prog .neq 100 t2 cx cy (.agg #[.int .u64 a0, .int .u64 a1]) (.agg #[.int .u64 b0, .int .u64 b1]) = some (.bool (decide (¬ (a0 = b0 ∧ a1 = b1)))) := (b8k t2 cx cy a0 a1 b0 b1).2
theorem b8l (t2 : TypeId) (cx cy : Bool) (a0 : Int) (a1 : Int) (b0 : Int) (b1 : Int) : kQ prog .eql 152 t2 cx cy (.agg #[.int .i64 a0, .int .i64 a1]) (.agg #[.int .i64 b0, .int .i64 b1]) = some (.bool (decide (a0 = b0 ∧ a1 = b1))) ∧ kQ prog .neq 152 t2 cx cy (.agg #[.int .i64 a0, .int .i64 a1]) (.agg #[.int .i64 b0, .int .i64 b1]) = some (.bool (decide (¬ (a0 = b0 ∧ a1 = b1)))) := by
 have h := xN (P := prog) (t := 152) (t2 := t2) (cx := cx) (cy := cy) (xs := [.int .i64 a0, .int .i64 a1]) (ys := [.int .i64 b0, .int .i64 b1]) (by kernel_rfl) (by kernel_rfl) (by kernel_rfl) (by kernel_rfl) rfl (by kernel_rfl) rfl rfl
 have e : ((List.range [Value.int .i64 a0, .int .i64 a1].length).all fun j => eqC ([Value.int .i64 a0, .int .i64 a1].getD j undef) ([Value.int .i64 b0, .int .i64 b1].getD j undef)) = decide (a0 = b0 ∧ a1 = b1) := by
  show (eqC (Value.int .i64 a0) (.int .i64 b0) && (eqC (Value.int .i64 a1) (.int .i64 b1) && true)) = _
  rw [dP]
  simp [eqC]
 rw [e] at h
 exact ⟨h.1, by rw [h.2]; simp⟩
theorem c0o (t2 : TypeId) (cx cy : Bool) (a0 : Int) (a1 : Int) (b0 : Int) (b1 : Int) : kQ prog .eql 152 t2 cx cy (.agg #[.int .i64 a0, .int .i64 a1]) (.agg #[.int .i64 b0, .int .i64 b1]) = some (.bool (decide (a0 = b0 ∧ a1 = b1))) := (b8l t2 cx cy a0 a1 b0 b1).1
theorem b9H (t2 : TypeId) (cx cy : Bool) (a0 : Int) (a1 : Int) (b0 : Int) (b1 : Int) : kQ prog .neq 152 t2 cx cy (.agg #[.int .i64 a0, .int .i64 a1]) (.agg #[.int .i64 b0, .int .i64 b1]) = some (.bool (decide (¬ (a0 = b0 ∧ a1 = b1)))) := (b8l t2 cx cy a0 a1 b0 b1).2
theorem b9N {a1 : ByteArray} : kI prog 36 [(0, .string a1)] = some (.agg #[.string a1, .slice none 0 0, .slice none 0 0, .slice none 0 0]) := by kernel_rfl
theorem a4k {a1 : ByteArray} {a2 : Value} {a3 : Value} {a4 : Value} (h2 : a2.cells = #[a2] ∧ oneCell a2 = true ∧ oN a2 = true) (h3 : a3.cells = #[a3] ∧ oneCell a3 = true ∧ oN a3 = true) (h4 : a4.cells = #[a4] ∧ oneCell a4 = true ∧ oN a4 = true) : kI prog 36 [(0, .string a1), (1, a2), (2, a3), (3, a4)] = some (.agg #[.string a1, a2, a3, a4]) := by cases a2 <;> cases a3 <;> cases a4 <;> first | (exfalso; simp [oneCell] at h2; done) | (exfalso; simp [oneCell] at h3; done) | (exfalso; simp [oneCell] at h4; done) | kernel_rfl
theorem b4g {a1 : Value} {a2 : Int} (h1 : a1.cells = #[a1] ∧ oneCell a1 = true ∧ oN a1 = true) : kI prog 41 [(0, a1), (1, .int .u64 a2)] = some (.agg #[a1, .int .u64 a2, .int .u64 0]) := by cases a1 <;> first | (exfalso; simp [oneCell] at h1; done) | kernel_rfl
theorem b4K {a1 : Int} {a2 : Int} : kI prog 41 [(1, .int .u64 a1), (2, .int .u64 a2)] = some (.agg #[.slice none 0 0, .int .u64 a1, .int .u64 a2]) := by kernel_rfl
theorem pM {a1 : Int} {a2 : Int} : kI prog 52 [(0, .int .i64 a1), (1, .int .i64 a2)] = some (.agg #[.int .i64 a1, .int .i64 a2]) := by kernel_rfl
theorem b8Y : kI prog 70 [] = some (.agg #[.int .i64 0, .int .i64 0]) := by kernel_rfl
theorem a0U {a1 : Int} {a2 : Int} : kI prog 70 [(0, .int .i64 a1), (1, .int .i64 a2)] = some (.agg #[.int .i64 a1, .int .i64 a2]) := by kernel_rfl
theorem sT {a1 : Int} {a2 : Int} : kI prog 88 [(0, .int .i64 a1), (1, .int .i64 a2)] = some (.agg #[.int .i64 a1, .int .i64 a2]) := by kernel_rfl
theorem a3L {a1 : ByteArray} {a2 : ByteArray} {a3 : Int} {a4 : Int} {a5 : Int} : kI prog 91 [(0, .string a1), (1, .string a2), (2, .agg #[.int .i64 a3, .int .i64 a4]), (3, .int .i64 a5)] = some (.agg #[.string a1, .string a2, .int .i64 a3, .int .i64 a4, .int .i64 a5, .slice none 0 0]) := by kernel_rfl
theorem a0D {a1 : ByteArray} {a2 : ByteArray} {a3 : Int} {a4 : Int} {a5 : Int} {a6 : Value} (h6 : a6.cells = #[a6] ∧ oneCell a6 = true ∧ oN a6 = true) : kI prog 91 [(0, .string a1), (1, .string a2), (2, .agg #[.int .i64 a3, .int .i64 a4]), (3, .int .i64 a5), (4, a6)] = some (.agg #[.string a1, .string a2, .int .i64 a3, .int .i64 a4, .int .i64 a5, a6]) := by cases a6 <;> first | (exfalso; simp [oneCell] at h6; done) | kernel_rfl
theorem a5E {a1 : Int} {a2 : Int} {a3 : Int} : kI prog 94 [(0, .agg #[.int .i64 a1, .int .i64 a2]), (1, .int .i64 a3)] = some (.agg #[.int .i64 a1, .int .i64 a2, .int .i64 a3]) := by kernel_rfl
theorem b2Q : kI prog 100 [] = some (.agg #[.int .u64 0, .int .u64 0]) := by kernel_rfl
theorem b1h {a1 : Int} {a2 : Int} : kI prog 100 [(0, .int .u64 a1), (1, .int .u64 a2)] = some (.agg #[.int .u64 a1, .int .u64 a2]) := by kernel_rfl
theorem a3i {a1 : Int} {a2 : Int} : kI prog 112 [(0, .int .i64 a1), (1, .int .i64 a2)] = some (.agg #[.int .i64 a1, .int .i64 a2]) := by kernel_rfl
theorem a6i {a1 : ByteArray} {a2 : Bool} {a3 : Int} {a4 : Int} : kI prog 115 [(0, .string a1), (1, .bool a2), (2, .agg #[.int .i64 a3, .int .i64 a4])] = some (.agg #[.string a1, .bool a2, .int .i64 a3, .int .i64 a4, .slice none 0 0]) := by kernel_rfl
theorem a0a {a1 : ByteArray} {a2 : Int} {a3 : Int} {a4 : Value} (h4 : a4.cells = #[a4] ∧ oneCell a4 = true ∧ oN a4 = true) : kI prog 115 [(0, .string a1), (2, .agg #[.int .i64 a2, .int .i64 a3]), (3, a4)] = some (.agg #[.string a1, .bool false, .int .i64 a2, .int .i64 a3, a4]) := by cases a4 <;> first | (exfalso; simp [oneCell] at h4; done) | kernel_rfl
theorem b1a {a1 : ByteArray} {a2 : Int} {a3 : Int} : kI prog 118 [(0, .string a1), (1, .agg #[.int .i64 a2, .int .i64 a3])] = some (.agg #[.string a1, .int .i64 a2, .int .i64 a3, .slice none 0 0]) := by kernel_rfl
theorem a6P {a1 : ByteArray} {a2 : Int} {a3 : Int} {a4 : Value} (h4 : a4.cells = #[a4] ∧ oneCell a4 = true ∧ oN a4 = true) : kI prog 118 [(0, .string a1), (1, .agg #[.int .i64 a2, .int .i64 a3]), (2, a4)] = some (.agg #[.string a1, .int .i64 a2, .int .i64 a3, a4]) := by cases a4 <;> first | (exfalso; simp [oneCell] at h4; done) | kernel_rfl
theorem a4P {a1 : ByteArray} {a2 : Int} {a3 : Int} : kI prog 125 [(0, .string a1), (1, .int .i64 a2), (2, .int .i64 a3)] = some (.agg #[.string a1, .int .i64 a2, .int .i64 a3, .int .i64 0, .bool false]) := by kernel_rfl
theorem a0h {a1 : ByteArray} {a2 : Int} {a3 : Int} {a4 : Int} {a5 : Bool} : kI prog 125 [(0, .string a1), (1, .int .i64 a2), (2, .int .i64 a3), (3, .int .i64 a4), (4, .bool a5)] = some (.agg #[.string a1, .int .i64 a2, .int .i64 a3, .int .i64 a4, .bool a5]) := by kernel_rfl
theorem b9C : kI prog 150 [] = some (.agg #[.int .i64 0, .int .i64 0, .slice none 0 0]) := by kernel_rfl
theorem kV {a1 : Int} {a2 : Int} {a3 : Value} (h3 : a3.cells = #[a3] ∧ oneCell a3 = true ∧ oN a3 = true) : kI prog 150 [(0, .int .i64 a1), (1, .int .i64 a2), (2, a3)] = some (.agg #[.int .i64 a1, .int .i64 a2, a3]) := by cases a3 <;> first | (exfalso; simp [oneCell] at h3; done) | kernel_rfl
theorem pI {a1 : Int} {a2 : Int} : kI prog 152 [(0, .int .i64 a1), (1, .int .i64 a2)] = some (.agg #[.int .i64 a1, .int .i64 a2]) := by kernel_rfl
theorem b0Y {a1 : Value} {a2 : Int} {a3 : Int} (h1 : a1.cells = #[a1] ∧ oneCell a1 = true ∧ oN a1 = true) : kI prog 194 [(0, a1), (1, .agg #[.int .i64 a2, .int .i64 a3])] = some (.agg #[a1, .int .i64 a2, .int .i64 a3]) := by cases a1 <;> first | (exfalso; simp [oneCell] at h1; done) | kernel_rfl
theorem b2o {a1 : Int} {a2 : Int} : kI prog 219 [(0, .int .u64 a1), (1, .int .u64 a2)] = some (.agg #[.int .u64 a1, .int .u64 a2]) := by kernel_rfl
theorem tR3 (l : List Value) (H : Heap) : gV prog Tryz.f3 l H = some (get l 6) := rfl
theorem c3F (l : List Value) (H : Heap) : gV prog Tryz.f10 l H = some (get l 0) := rfl
theorem a8r (l : List Value) (H : Heap) : gV prog Tryz.f11 l H = some (get l 2) := rfl
theorem c4D (l : List Value) (H : Heap) : gV prog Tryz.f12 l H = oP (jF prog 36) (gW prog 36) H (get l 2) := by
 show (Option.bind (Option.bind (lD prog H 36 (get l 2)) fun v => some [v]) fun vs => _) = _
 rw [kZ]
 cases oP _ _ H (get l 2) <;> rfl
theorem c4W (l : List Value) (H : Heap) : gV prog Tryz.f13 l H = oP (jF prog 41) (gW prog 41) H (get l 4) := by
 show (Option.bind (Option.bind (lD prog H 41 (get l 4)) fun v => some [v]) fun vs => _) = _
 rw [kZ]
 cases oP _ _ H (get l 4) <;> rfl
theorem c3T (l : List Value) (H : Heap) : gV prog Tryz.f14 l H = some (get l 4) := rfl
theorem c1D (l : List Value) (H : Heap) : gV prog Tryz.f15 l H = if (jS (get l 6) && (jS (get l 7) && true)) = true then some (.tuple #[get l 6, get l 7]) else none := rfl
theorem c0a (l : List Value) (H : Heap) : gV prog Tryz.f16 l H = some (get l 4) := rfl
theorem c4K (l : List Value) (H : Heap) : gV prog Tryz.f17 l H = some (get l 6) := rfl
theorem b1t (l : List Value) (H : Heap) : gV prog Tryz.f18 l H = some (get l 4) := rfl
theorem b7I (l : List Value) (H : Heap) : gV prog Tryz.f19 l H = some (get l 4) := rfl
theorem c3h (l : List Value) (H : Heap) : gV prog Tryz.f20 l H = if (jS (get l 6) && (jS (get l 7) && true)) = true then some (.tuple #[get l 6, get l 7]) else none := rfl
theorem c0X (l : List Value) (H : Heap) : gV prog Tryz.f26 l H = some (get l 4) := rfl
theorem a2p (l : List Value) (H : Heap) : gV prog Tryz.f35 l H = some (get l 2) := rfl
theorem c3O (l : List Value) (H : Heap) : gV prog Tryz.f36 l H = if (jS (get l 6) && (jS (get l 7) && true)) = true then some (.tuple #[get l 6, get l 7]) else none := rfl
theorem c3X (l : List Value) (H : Heap) : gV prog Tryz.f38 l H = some (.tuple #[]) := rfl
theorem b9I (l : List Value) (H : Heap) : gV prog Tryz.f40 l H = some (get l 4) := rfl
theorem c4E (l : List Value) (H : Heap) : gV prog Tryz.f41 l H = oP (jF prog 36) (gW prog 36) H (get l 0) := by
 show (Option.bind (Option.bind (lD prog H 36 (get l 0)) fun v => some [v]) fun vs => _) = _
 rw [kZ]
 cases oP _ _ H (get l 0) <;> rfl
theorem c3K (l : List Value) (H : Heap) : gV prog Tryz.f42 l H = (oP (jF prog 100) (gW prog 100) H (get l 2)).bind fun v => if (jS v && (jS (get l 3) && true)) = true then some (.tuple #[v, get l 3]) else none := by
 show (Option.bind (Option.bind (lD prog H 100 (get l 2)) fun v => some [v, get l 3]) fun vs => _) = _
 rw [kZ]
 cases oP _ _ H (get l 2) <;> rfl
theorem c4f (l : List Value) (H : Heap) : gV prog Tryz.f43 l H = oP (jF prog 91) (gW prog 91) H (get l 4) := by
 show (Option.bind (Option.bind (lD prog H 91 (get l 4)) fun v => some [v]) fun vs => _) = _
 rw [kZ]
 cases oP _ _ H (get l 4) <;> rfl
theorem a7W (l : List Value) (H : Heap) : gV prog Tryz.f44 l H = oP (jF prog 118) (gW prog 118) H (get l 8) := by
 show (Option.bind (Option.bind (lD prog H 118 (get l 8)) fun v => some [v]) fun vs => _) = _
 rw [kZ]
 cases oP _ _ H (get l 8) <;> rfl
theorem c1o (l : List Value) (H : Heap) : gV prog Tryz.f45 l H = some (get l 6) := rfl
theorem c4n (l : List Value) (H : Heap) : gV prog Tryz.f46 l H = some (get l 6) := rfl
theorem c4q (l : List Value) (H : Heap) : gV prog Tryz.f47 l H = some (get l 2) := rfl
theorem c4z (l : List Value) (H : Heap) : gV prog Tryz.f48 l H = some (get l 4) := rfl
theorem c4b (l : List Value) (H : Heap) : gV prog Tryz.f49 l H = some (get l 6) := rfl
theorem c4O (l : List Value) (H : Heap) : gV prog Tryz.f50 l H = some (get l 4) := rfl
theorem c1p (l : List Value) (H : Heap) : gV prog Tryz.f52 l H = some (get l 4) := rfl
theorem c4s (l : List Value) (H : Heap) : gV prog Tryz.f53 l H = (oP (jF prog 100) (gW prog 100) H (get l 2)).bind fun v => if (jS v && (jS (get l 3) && true)) = true then some (.tuple #[v, get l 3]) else none := by
 show (Option.bind (Option.bind (lD prog H 100 (get l 2)) fun v => some [v, get l 3]) fun vs => _) = _
 rw [kZ]
 cases oP _ _ H (get l 2) <;> rfl
theorem c4u (l : List Value) (H : Heap) : gV prog Tryz.f54 l H = some (get l 4) := rfl
theorem c3N (l : List Value) (H : Heap) : gV prog Tryz.f55 l H = some (get l 6) := rfl
theorem c4v (l : List Value) (H : Heap) : gV prog Tryz.f57 l H = some (get l 2) := rfl
theorem c0R (l : List Value) (H : Heap) : gV prog Tryz.f64 l H = some (get l 2) := rfl
theorem c4Q (l : List Value) (H : Heap) : gV prog Tryz.f66 l H = some (get l 6) := rfl
theorem b3M (l : List Value) (H : Heap) : gV prog Tryz.f67 l H = some (get l 4) := rfl
theorem b5N (l : List Value) (H : Heap) : gV prog Tryz.f69 l H = some (get l 4) := rfl
theorem b1p (l : List Value) (H : Heap) : gV prog Tryz.f73 l H = some (get l 2) := rfl
theorem a7q (l : List Value) (H : Heap) : gV prog Tryz.f74 l H = some (get l 2) := rfl
theorem c1t (l : List Value) (H : Heap) : gV prog Tryz.f75 l H = some (get l 4) := rfl
theorem b4v (l : List Value) (H : Heap) : gV prog Tryz.f76 l H = some (get l 4) := rfl
theorem yY (l : List Value) (H : Heap) : gV prog Tryz.f77 l H = some (get l 4) := rfl
theorem c4T (l : List Value) (H : Heap) : gV prog Tryz.f78 l H = if (jS (get l 4) && (jS (get l 5) && true)) = true then some (.tuple #[get l 4, get l 5]) else none := rfl
theorem b9W (l : List Value) (H : Heap) : gV prog Tryz.f80 l H = some (get l 4) := rfl
theorem c3P (l : List Value) (H : Heap) : gV prog Tryz.f82 l H = some (.tuple #[]) := rfl
theorem c3R (l : List Value) (H : Heap) : gV prog Tryz.f83 l H = some (get l 6) := rfl
theorem c4X (l : List Value) (H : Heap) : gV prog Tryz.f84 l H = oP (jF prog 91) (gW prog 91) H (get l 2) := by
 show (Option.bind (Option.bind (lD prog H 91 (get l 2)) fun v => some [v]) fun vs => _) = _
 rw [kZ]
 cases oP _ _ H (get l 2) <;> rfl
theorem c3Z (l : List Value) (H : Heap) : gV prog Tryz.f85 l H = some (get l 2) := rfl
theorem c2o (l : List Value) (H : Heap) : gV prog Tryz.f86 l H = oP (jF prog 100) (gW prog 100) H (get l 4) := by
 show (Option.bind (Option.bind (lD prog H 100 (get l 4)) fun v => some [v]) fun vs => _) = _
 rw [kZ]
 cases oP _ _ H (get l 4) <;> rfl
theorem c3I (l : List Value) (H : Heap) : gV prog Tryz.f87 l H = oP (jF prog 88) (gW prog 88) H (get l 2) := by
 show (Option.bind (Option.bind (lD prog H 88 (get l 2)) fun v => some [v]) fun vs => _) = _
 rw [kZ]
 cases oP _ _ H (get l 2) <;> rfl
theorem c4t (l : List Value) (H : Heap) : gV prog Tryz.f88 l H = oP (jF prog 88) (gW prog 88) H (get l 2) := by
 show (Option.bind (Option.bind (lD prog H 88 (get l 2)) fun v => some [v]) fun vs => _) = _
 rw [kZ]
 cases oP _ _ H (get l 2) <;> rfl
theorem b9i (l : List Value) (H : Heap) : gV prog Tryz.f89 l H = some (get l 4) := rfl
theorem c2c (l : List Value) (H : Heap) : gV prog Tryz.f90 l H = some (.tuple #[]) := rfl
theorem c3W (l : List Value) (H : Heap) : gV prog Tryz.f91 l H = some (get l 4) := rfl
theorem b9d (l : List Value) (H : Heap) : gV prog Tryz.f92 l H = some (get l 2) := rfl
theorem c3U (l : List Value) (H : Heap) : gV prog Tryz.f93 l H = some (.tuple #[]) := rfl
theorem c2g (l : List Value) (H : Heap) : gV prog Tryz.f94 l H = some (get l 4) := rfl
theorem b5W (l : List Value) (H : Heap) : gV prog Tryz.f97 l H = some (get l 2) := rfl
theorem c3G (l : List Value) (H : Heap) : gV prog Tryz.f98 l H = oP (jF prog 100) (gW prog 100) H (get l 4) := by
 show (Option.bind (Option.bind (lD prog H 100 (get l 4)) fun v => some [v]) fun vs => _) = _
 rw [kZ]
 cases oP _ _ H (get l 4) <;> rfl
theorem c2B (l : List Value) (H : Heap) : gV prog Tryz.f100 l H = some (get l 4) := rfl
theorem c2P (l : List Value) (H : Heap) : gV prog Tryz.f101 l H = some (get l 2) := rfl
theorem c1u (l : List Value) (H : Heap) : gV prog Tryz.f102 l H = some (get l 2) := rfl
theorem c2T (l : List Value) (H : Heap) : gV prog Tryz.f106 l H = some (get l 6) := rfl
theorem a7a (l : List Value) (H : Heap) : gV prog Tryz.f107 l H = some (get l 2) := rfl
theorem a6m (l : List Value) (H : Heap) : gV prog Tryz.f108 l H = some (get l 2) := rfl
theorem b8N (l : List Value) (H : Heap) : gV prog Tryz.f109 l H = some (get l 2) := rfl
theorem b8L (l : List Value) (H : Heap) : gV prog Tryz.f110 l H = some (get l 2) := rfl
theorem sA (l : List Value) (H : Heap) : gV prog Tryz.f111 l H = some (get l 4) := rfl
theorem c1l (l : List Value) (H : Heap) : gV prog Tryz.f112 l H = some (get l 4) := rfl
theorem c1C (l : List Value) (H : Heap) : gV prog Tryz.f113 l H = some (get l 3) := rfl
theorem b8T (l : List Value) (H : Heap) : gV prog Tryz.f114 l H = some (get l 4) := rfl
theorem c2O (l : List Value) (H : Heap) : gV prog Tryz.f115 l H = some (get l 4) := rfl
theorem c1y (l : List Value) (H : Heap) : gV prog Tryz.f116 l H = some (get l 2) := rfl
theorem c1H (l : List Value) (H : Heap) : gV prog Tryz.f120 l H = some (.tuple #[]) := rfl
theorem c2x (l : List Value) (H : Heap) : gV prog Tryz.f122 l H = some (get l 4) := rfl
theorem b8U (l : List Value) (H : Heap) : gV prog Tryz.f123 l H = some (get l 2) := rfl
theorem c2Y (l : List Value) (H : Heap) : gV prog Tryz.f134 l H = some (get l 4) := rfl
theorem c2A (l : List Value) (H : Heap) : gV prog Tryz.f135 l H = some (.tuple #[]) := rfl
theorem c2Z (l : List Value) (H : Heap) : gV prog Tryz.f136 l H = some (get l 2) := rfl
theorem b8R (l : List Value) (H : Heap) : gV prog Tryz.f145 l H = oP (jF prog 150) (gW prog 150) H (get l 4) := by
 show (Option.bind (Option.bind (lD prog H 150 (get l 4)) fun v => some [v]) fun vs => _) = _
 rw [kZ]
 cases oP _ _ H (get l 4) <;> rfl
theorem a9t (l : List Value) (H : Heap) : gV prog Tryz.f146 l H = (oP (jF prog 70) (gW prog 70) H (get l 6)).bind fun v => if (jS v && (jS (get l 7) && true)) = true then some (.tuple #[v, get l 7]) else none := by
 show (Option.bind (Option.bind (lD prog H 70 (get l 6)) fun v => some [v, get l 7]) fun vs => _) = _
 rw [kZ]
 cases oP _ _ H (get l 6) <;> rfl
theorem c1X (l : List Value) (H : Heap) : gV prog Tryz.f147 l H = some (get l 2) := rfl
theorem a3j (l : List Value) (H : Heap) : gV prog Tryz.f148 l H = some (get l 2) := rfl
theorem c3t (l : List Value) (H : Heap) : gV prog Tryz.f149 l H = some (get l 4) := rfl
theorem b8M (l : List Value) (H : Heap) : gV prog Tryz.f150 l H = some (get l 2) := rfl
theorem b5m (l : List Value) (H : Heap) : gV prog Tryz.f151 l H = some (get l 2) := rfl
theorem a1M (l : List Value) (H : Heap) : gV prog Tryz.f152 l H = some (get l 4) := rfl
theorem b8z (l : List Value) (H : Heap) : gV prog Tryz.f153 l H = some (get l 4) := rfl
theorem b8J (l : List Value) (H : Heap) : gV prog Tryz.f177 l H = some (get l 4) := rfl
theorem b8F (l : List Value) (H : Heap) : gV prog Tryz.f178 l H = some (get l 3) := rfl
theorem c1K (l : List Value) (H : Heap) : gV prog Tryz.f179 l H = some (get l 4) := rfl
theorem c3m (l : List Value) (H : Heap) : gV prog Tryz.f180 l H = some (get l 4) := rfl
theorem b8t (l : List Value) (H : Heap) : gV prog Tryz.f181 l H = some (get l 2) := rfl
theorem b8C (l : List Value) (H : Heap) : gV prog Tryz.f182 l H = some (get l 4) := rfl
theorem c1V (l : List Value) (H : Heap) : gV prog Tryz.f183 l H = some (get l 4) := rfl
theorem b8w (l : List Value) (H : Heap) : gV prog Tryz.f205 l H = some (get l 4) := rfl
theorem a5b : MapK prog 158 Value.string (.bool false) := MapK.str (kt := 9) (et := 4) (by kernel_rfl) (by kernel_rfl) (by kernel_rfl) rfl
theorem a6u : MapK prog 173 (fun p : Int × Int => .agg #[I p.1, I p.2]) (.bool false) := MapK.struct (kt := 52) (et := 4) (fs := (sO prog 52).toArray) (by kernel_rfl) (by kernel_rfl) (by kernel_rfl) rfl (fun b k => by cases b <;> kernel_rfl) (fun a b => c1d (by kernel_rfl) (by kernel_rfl) (by kernel_rfl) (fun _ _ _ _ => by kernel_rfl) a b) (fun k => c0J k)
theorem tt0 : jF prog 3 = some false ∧ jF prog 4 = some false ∧ gW prog 4 = some 1 ∧ jF prog 5 = some false ∧ gW prog 5 = some 1 ∧ jF prog 9 = some false ∧ gW prog 9 = some 1 ∧ jF prog 22 = some false ∧ gW prog 22 = some 1 ∧ jF prog 23 = some false ∧ gW prog 23 = some 1 ∧ jF prog 24 = some false ∧ gW prog 24 = some 1 ∧ jF prog 26 = some true ∧ jF prog 27 = some true ∧ jF prog 28 = some false ∧ gW prog 28 = some 1 ∧ jF prog 29 = some true ∧ jF prog 32 = some false ∧ jF prog 33 = some false ∧ jF prog 34 = some false ∧ jF prog 36 = some true ∧ jF prog 38 = some false ∧ jF prog 39 = some false ∧ jF prog 41 = some true ∧ jF prog 46 = some false ∧ jF prog 52 = some true ∧ jF prog 70 = some true ∧ jF prog 88 = some true ∧ jF prog 89 = some false ∧ jF prog 91 = some true ∧ jF prog 94 = some true ∧ gW prog 94 = some 3 ∧ jF prog 100 = some true ∧ jF prog 103 = some false ∧ gW prog 103 = some 1 ∧ jF prog 105 = some true ∧ jF prog 107 = some false ∧ gW prog 107 = some 1 ∧ jF prog 109 = some true := by and_intros <;> kernel_rfl
theorem tt1 : jF prog 112 = some true ∧ jF prog 113 = some false ∧ jF prog 115 = some true ∧ jF prog 116 = some false ∧ jF prog 118 = some true ∧ jF prog 121 = some true ∧ jF prog 123 = some true ∧ jF prog 125 = some true ∧ jF prog 148 = some false ∧ gW prog 148 = some 1 ∧ jF prog 150 = some true ∧ jF prog 152 = some true ∧ jF prog 173 = some false ∧ jF prog 194 = some true ∧ iK prog 22 = some 9 ∧ iK prog 23 = some 4 ∧ iK prog 24 = some 4 ∧ iK prog 32 = some 6 ∧ iK prog 33 = some 5 ∧ iK prog 34 = some 5 ∧ iK prog 38 = some 1 ∧ iK prog 44 = some 2 ∧ iK prog 46 = some 2 ∧ iK prog 58 = some 2 ∧ iK prog 83 = some 3 ∧ iK prog 103 = some 4 ∧ iK prog 110 = some 1 ∧ iK prog 113 = some 4 ∧ iK prog 116 = some 3 ∧ iK prog 127 = some 3 ∧ iK prog 148 = some 2 ∧ iK prog 155 = some 1 ∧ iK prog 156 = some 2 ∧ iK prog 205 = some 2 ∧ kU prog 32 = true ∧ kU prog 33 = true ∧ kU prog 34 = true ∧ kU prog 38 = true ∧ kU prog 44 = true ∧ kU prog 46 = true := by and_intros <;> kernel_rfl
theorem tt2 : kU prog 58 = true ∧ kU prog 83 = true ∧ kU prog 89 = true ∧ kU prog 110 = true ∧ kU prog 113 = true ∧ kU prog 116 = true ∧ kU prog 127 = true ∧ kU prog 148 = true ∧ kU prog 155 = true ∧ kU prog 156 = true ∧ kU prog 205 = true ∧ iK prog 9 = none ∧ mZ prog 9 = true ∧ iO prog 26 0 = some 0 ∧ iO prog 26 1 = some 1 ∧ iO prog 26 2 = some 2 ∧ iO prog 36 0 = some 0 ∧ iO prog 36 1 = some 1 ∧ iO prog 36 2 = some 2 ∧ iO prog 36 3 = some 3 ∧ iO prog 41 0 = some 0 ∧ iO prog 41 1 = some 1 ∧ iO prog 41 2 = some 2 ∧ iO prog 52 0 = some 0 ∧ iO prog 52 1 = some 1 ∧ iO prog 70 0 = some 0 ∧ iO prog 70 1 = some 1 ∧ iO prog 88 0 = some 0 ∧ iO prog 88 1 = some 1 ∧ iO prog 91 0 = some 0 ∧ iO prog 91 1 = some 1 ∧ iO prog 91 2 = some 2 ∧ iO prog 91 3 = some 4 ∧ iO prog 91 4 = some 5 ∧ iO prog 100 0 = some 0 ∧ iO prog 100 1 = some 1 ∧ iO prog 105 0 = some 0 ∧ iO prog 105 1 = some 1 ∧ iO prog 105 2 = some 2 ∧ iO prog 105 3 = some 3 := by and_intros <;> kernel_rfl
theorem tt3 : iO prog 109 0 = some 0 ∧ iO prog 109 1 = some 1 ∧ iO prog 109 2 = some 2 ∧ iO prog 109 3 = some 3 ∧ iO prog 109 4 = some 4 ∧ iO prog 112 0 = some 0 ∧ iO prog 112 1 = some 1 ∧ iO prog 115 0 = some 0 ∧ iO prog 115 2 = some 2 ∧ iO prog 115 3 = some 4 ∧ iO prog 118 0 = some 0 ∧ iO prog 118 1 = some 1 ∧ iO prog 118 2 = some 3 ∧ iO prog 121 0 = some 0 ∧ iO prog 121 1 = some 1 ∧ iO prog 121 2 = some 2 ∧ iO prog 121 3 = some 3 ∧ iO prog 123 0 = some 0 ∧ iO prog 123 1 = some 1 ∧ iO prog 123 2 = some 2 ∧ iO prog 123 3 = some 3 ∧ iO prog 125 0 = some 0 ∧ iO prog 125 1 = some 1 ∧ iO prog 125 2 = some 2 ∧ iO prog 125 3 = some 3 ∧ iO prog 125 4 = some 4 ∧ iO prog 150 0 = some 0 ∧ iO prog 150 1 = some 1 ∧ iO prog 150 2 = some 2 ∧ iO prog 152 0 = some 0 ∧ iO prog 152 1 = some 1 ∧ iO prog 194 0 = some 0 ∧ iO prog 194 1 = some 1 ∧ iS prog 36 = some (.agg #[.string ⟨#[]⟩, .slice none 0 0, .slice none 0 0, .slice none 0 0]) ∧ jG prog 36 = none ∧ iS prog 41 = some (.agg #[.slice none 0 0, .int .u64 0, .int .u64 0]) ∧ jG prog 41 = none ∧ iS prog 46 = some (.slice none 0 0) ∧ jG prog 46 = none ∧ iS prog 52 = some (.agg #[.int .i64 0, .int .i64 0]) := by and_intros <;> kernel_rfl
theorem tt4 : jG prog 52 = none ∧ iS prog 70 = some (.agg #[.int .i64 0, .int .i64 0]) ∧ jG prog 70 = none ∧ iS prog 88 = some (.agg #[.int .i64 0, .int .i64 0]) ∧ jG prog 88 = none ∧ iS prog 91 = some (.agg #[.string ⟨#[]⟩, .string ⟨#[]⟩, .int .i64 0, .int .i64 0, .int .i64 0, .slice none 0 0]) ∧ jG prog 91 = none ∧ iS prog 100 = some (.agg #[.int .u64 0, .int .u64 0]) ∧ jG prog 100 = none ∧ iS prog 105 = some (.agg #[.int .u8 0, .int .u8 0, .bool false, .slice none 0 0]) ∧ jG prog 105 = none ∧ iS prog 112 = some (.agg #[.int .i64 0, .int .i64 0]) ∧ jG prog 112 = none ∧ iS prog 115 = some (.agg #[.string ⟨#[]⟩, .bool false, .int .i64 0, .int .i64 0, .slice none 0 0]) ∧ jG prog 115 = none ∧ iS prog 118 = some (.agg #[.string ⟨#[]⟩, .int .i64 0, .int .i64 0, .slice none 0 0]) ∧ jG prog 118 = none ∧ iS prog 123 = some (.agg #[.int .u8 0, .int .u8 0, .int .i8 0, .bool false]) ∧ jG prog 123 = none ∧ iS prog 125 = some (.agg #[.string ⟨#[]⟩, .int .i64 0, .int .i64 0, .int .i64 0, .bool false]) ∧ jG prog 125 = none ∧ iS prog 150 = some (.agg #[.int .i64 0, .int .i64 0, .slice none 0 0]) ∧ jG prog 150 = none ∧ iS prog 152 = some (.agg #[.int .i64 0, .int .i64 0]) ∧ jG prog 152 = none ∧ iS prog 173 = some (.map none) ∧ jG prog 173 = none ∧ a0d prog 3 = some .i64 ∧ a0d prog 5 = some .u8 ∧ a0d prog 39 = some .u64 ∧ a0d prog 72 = some .u64 ∧ a0d prog 107 = some .i8 := by and_intros <;> kernel_rfl
def TS := (And.intro (And.intro (And.intro (And.intro (And.intro @tt0 (And.intro @tt1 @tt2)) (And.intro @tt3 (And.intro @tt4 @tS3))) (And.intro (And.intro @b6a (And.intro @c0O @b9V)) (And.intro @c1r (And.intro @c1w @b8d)))) (And.intro (And.intro (And.intro @mT (And.intro @c1Y @b7S)) (And.intro @qP (And.intro @a8x @nR))) (And.intro (And.intro @vV (And.intro @yM @b7z)) (And.intro @wT (And.intro @lA @a9K))))) (And.intro (And.intro (And.intro (And.intro @b4c (And.intro @sC @b8o)) (And.intro @sB (And.intro @uL @nV))) (And.intro (And.intro @b3n (And.intro @a9U @sK)) (And.intro @a0P (And.intro @zV @b5x)))) (And.intro (And.intro (And.intro @a9G (And.intro @c0j @c4U)) (And.intro @c4j (And.intro @c2K @c1J))) (And.intro (And.intro @c2H (And.intro @c1x @c1R)) (And.intro (And.intro @b9b @b8Z) (And.intro @c0o @b9H))))))
def RZ := And.intro @RB (And.intro @RC @TS)
end Go.Ds
namespace Go.Ds
open Go.Proofs
variable {P : Program} {H : Heap}
structure Drw where
 rank : Int
 shift : Int
 deriving DecidableEq, Inhabited
structure Seg where
 lo : Int
 hi : Int
 dv : Value
 draws : List Drw
 deriving Inhabited
structure Stp where
 name : ByteArray
 num : Int
 den : Int
 gv : Value
 segs : List Seg
 deriving Inhabited
structure Dvn where
 name : ByteArray
 pedal : Bool
 lo : Int
 hi : Int
 sv : Value
 stops : List Stp
 deriving Inhabited
structure Rk where
 name : ByteArray
 tone : ByteArray
 num : Int
 den : Int
 first : Int
 wv : Value
 wind : List Int
 deriving Inhabited
structure Cpl where
 name : ByteArray
 src : Int
 dst : Int
 shift : Int
 thr : Bool
 deriving Inhabited
structure Org where
 name : ByteArray
 rv : Value
 ranks : List Rk
 dv : Value
 dvs : List Dvn
 cv : Value
 cpls : List Cpl
 deriving Inhabited
def Drw.cells (d : Drw) : List Value := [I d.rank, I d.shift]
def Seg.cells (s : Seg) : List Value := [I s.lo, I s.hi, s.dv]
def Stp.cells (s : Stp) : List Value := [.string s.name, I s.num, I s.den, s.gv]
def Dvn.cells (d : Dvn) : List Value := [.string d.name, .bool d.pedal, I d.lo, I d.hi, d.sv]
def Rk.cells (r : Rk) : List Value := [.string r.name, .string r.tone, I r.num, I r.den, I r.first, r.wv]
def Cpl.cells (c : Cpl) : List Value := [.string c.name, I c.src, I c.dst, I c.shift, .bool c.thr]
def Org.cells (o : Org) : List Value := [.string o.name, o.rv, o.dv, o.cv]
def Seg.In (H : Heap) (s : Seg) : Prop := Sl 2 Drw.cells H s.dv s.draws ∧ s.draws.length < 1000000000
def Stp.In (H : Heap) (s : Stp) : Prop := Sl 3 Seg.cells H s.gv s.segs ∧ (∀ g ∈ s.segs, g.In H) ∧ s.segs.length < 1000000000
def Dvn.In (H : Heap) (d : Dvn) : Prop := Sl 4 Stp.cells H d.sv d.stops ∧ (∀ s ∈ d.stops, s.In H) ∧ d.stops.length < 1000000000
def Rk.In (H : Heap) (r : Rk) : Prop := Sl 1 (one I) H r.wv r.wind ∧ r.wind.length < 1000000000
def Org.In (H : Heap) (o : Org) : Prop := Sl 6 Rk.cells H o.rv o.ranks ∧ (∀ r ∈ o.ranks, r.In H) ∧ Sl 5 Dvn.cells H o.dv o.dvs ∧ (∀ d ∈ o.dvs, d.In H) ∧ Sl 5 Cpl.cells H o.cv o.cpls ∧ o.ranks.length < 1000000000 ∧ o.dvs.length < 1000000000 ∧ o.cpls.length < 1000000000
section
variable {H0 : Heap} {os : List Ob}
theorem Seg.In.ai {s : Seg} (h : s.In H0) (hS : St P H0 H os) : s.In H := ⟨hS.sl h.1, h.2⟩
theorem Stp.In.ai {s : Stp} (h : s.In H0) (hS : St P H0 H os) : s.In H := ⟨hS.sl h.1, fun g hg => (h.2.1 g hg).ai hS, h.2.2⟩
theorem Dvn.In.ai {d : Dvn} (h : d.In H0) (hS : St P H0 H os) : d.In H := ⟨hS.sl h.1, fun g hg => (h.2.1 g hg).ai hS, h.2.2⟩
theorem Rk.In.ai {r : Rk} (h : r.In H0) (hS : St P H0 H os) : r.In H := ⟨hS.sl h.1, h.2⟩
theorem Org.In.ai {o : Org} (h : o.In H0) (hS : St P H0 H os) : o.In H := ⟨hS.sl h.1, fun r hr => (h.2.1 r hr).ai hS, hS.sl h.2.2.1, fun d hd => (h.2.2.2.1 d hd).ai hS, hS.sl h.2.2.2.2.1, h.2.2.2.2.2⟩
end
def c1s (n : Int) : Prop := -9223372036854775808 ≤ n ∧ n < 9223372036854775808
end Go.Ds
