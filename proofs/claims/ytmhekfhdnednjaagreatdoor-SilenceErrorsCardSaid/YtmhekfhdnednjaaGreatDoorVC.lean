/-
  A part of the proof of SilenceErrors.
-/
import Derived.Test.YtmhekfhdnednjaaGreatDoorVA
import Derived.Test.YtmhekfhdnednjaaGreatDoorVB
import Derived.Test.YtmhekfhdnednjaaGreatDoorProg
import Derived.KernelRfl
import Derived.Lib.LaidTab
import Derived.Stop.LaidErr
import Derived.Laws.Strings
set_option linter.unusedVariables false
set_option linter.unusedSimpArgs false
set_option linter.defProp false
set_option linter.unusedSectionVars false
namespace Go.Ds
noncomputable section
inductive Pth where
 | z
 | l (p : Pth)
 | r (p : Pth)
inductive Fr where
 | e
 | n (v : Value) (l r : Fr)
def a4R : Nat → Nat → Pth := fun f => Nat.rec (motive := fun _ => Nat → Pth) (fun _ => .z) (fun _ ih k => Nat.rec (motive := fun _ => Pth) .z (fun k _ => Bool.rec (motive := fun _ => Pth) (.r (ih (Nat.div k 2))) (.l (ih (Nat.div k 2))) (Nat.beq (Nat.mod k 2) 0)) k) f
def kQ (k : Nat) : Pth := a4R k k
def nQ (p : Pth) : Fr → Value := Pth.rec (motive := fun _ => Fr → Value)
 (fun f => Fr.rec (motive := fun _ => Value) undef (fun v _ _ _ _ => v) f)
 (fun _ ih f => Fr.rec (motive := fun _ => Value) undef (fun _ l _ _ _ => ih l) f)
 (fun _ ih f => Fr.rec (motive := fun _ => Value) undef (fun _ _ r _ _ => ih r) f) p
def pP {α : Type} (v : Value) (p : Pth) : Fr → (Fr → α) → α := Pth.rec (motive := fun _ => Fr → (Fr → α) → α)
 (fun f K => Fr.rec (motive := fun _ => α) (K (.n v .e .e)) (fun _ l r _ _ => K (.n v l r)) f)
 (fun _ ih f K => Fr.rec (motive := fun _ => α) (ih .e fun l => K (.n undef l .e)) (fun w l r _ _ => ih l fun l => K (.n w l r)) f)
 (fun _ ih f K => Fr.rec (motive := fun _ => α) (ih .e fun r => K (.n undef .e r)) (fun w l r _ _ => ih r fun r => K (.n w l r)) f) p
def lO {α : Type} (p : Pth) : (Pth → α) → α := Pth.rec (motive := fun _ => (Pth → α) → α) (fun K => K .z) (fun _ ih K => ih fun p => K (.l p)) (fun _ ih K => ih fun p => K (.r p)) p
inductive LArg where
 | t (p : Pth)
 | c (v : Value)
def mK (f : Fr) (x : LArg) : Value := LArg.rec (motive := fun _ => Value) (fun p => nQ p f) (fun v => v) x
inductive Rs where
 | no
 | ok (v : Value) (H : Heap)
 | th (v : Value) (H : Heap)
def oG {α : Type} (v : Value) (K : Value → α) : α :=
 match v with
 | .bool b => K (.bool b)
 | .int k n => K (.int k n)
 | .string s => K (.string s)
 | .pointer a => K (.pointer a)
 | .slice a n c => K (.slice a n c)
 | .map r => K (.map r)
 | .func fn a b => K (.func fn a b)
 | .agg cs => K (.agg cs)
 | .tuple vs => K (.tuple vs)
 | v => K v
inductive LOp where
 | bad
 | mv (x : LArg)
 | pick (c a b : LArg)
 | bin (g : IntKind → Int → Int → Option Value) (x y : LArg)
 | not (x : LArg)
 | ld1 (x : LArg)
 | ldn (n : Nat) (x : LArg)
 | st (n : Nat) (x y : LArg)
 | fa (off : Nat) (x : LArg)
 | ixs (size : Nat) (x i : LArg)
 | ixa (n size : Nat) (x i : LArg)
 | ext (i : Nat) (x : LArg)
 | f1 (off : Nat) (x : LArg)
 | fn (off n : Nat) (x : LArg)
 | len (x : LArg)
 | slen (x : LArg)
 | app (elem size bytes : Nat) (x y : LArg)
 | alloc (t : TypeId) (cs : List Value)
 | callF (f : FuncId) (p : Pth) (args : List LArg)
 | callV (g : LArg) (args : List LArg)
 | gen (o : Oper)
inductive LOps where
 | nil
 | cons (d : Option Pth) (o : LOp) (rest : LOps)
 | gcons (p : Pth) (w : Bool) (d : Option Pth) (o : LOp) (rest : LOps)
inductive LCode where
 | bad
 | skip
 | reg (ops : LOps)
 | drw (ops : LOps) (tab : List (Nat × Option Nat × Option (Pth × Bool) × LOp))
 | seq (a b : LCode)
 | cond (c : LArg) (x y : LCode)
 | block (id : Nat) (b : LCode)
 | loop (b : LCode)
 | exit (id : Nat)
 | ret
 | range (g : LArg) (ps : List Pth) (pp : List Pth) (params : Array Tmp) (assign body : Code) (a b : LCode)
inductive LRes where
 | t (p : Pth)
 | c1 (p : Pth)
 | cn (n : Nat) (p : Pth)
structure LFunc where
 ps : List Pth
 body : LCode
 res : List LRes
inductive LT where
 | e
 | n (g : Option LFunc) (l r : LT)
def a1M (p : Pth) : LT → Option LFunc := Pth.rec (motive := fun _ => LT → Option LFunc)
 (fun f => LT.rec (motive := fun _ => Option LFunc) none (fun v _ _ _ _ => v) f)
 (fun _ ih f => LT.rec (motive := fun _ => Option LFunc) none (fun _ l _ _ _ => ih l) f)
 (fun _ ih f => LT.rec (motive := fun _ => Option LFunc) none (fun _ _ r _ _ => ih r) f) p
def rN {α : Type} (v : LFunc) (p : Pth) : LT → (LT → α) → α := Pth.rec (motive := fun _ => LT → (LT → α) → α)
 (fun f K => LT.rec (motive := fun _ => α) (K (.n (some v) .e .e)) (fun _ l r _ _ => K (.n (some v) l r)) f)
 (fun _ ih f K => LT.rec (motive := fun _ => α) (ih .e fun l => K (.n none l .e)) (fun w l r _ _ => ih l fun l => K (.n w l r)) f)
 (fun _ ih f K => LT.rec (motive := fun _ => α) (ih .e fun r => K (.n none .e r)) (fun w l r _ _ => ih r fun r => K (.n w l r)) f) p
structure LEnv where
 L : Nat
 ps : List Pth
 pp : List Pth
 a : LCode
 b : LCode
def b7b (P : Program) (o : Oper) (ρ : Operand → Value) (H : Heap) : Option (Value × Heap) :=
 if o.op.operands.toList.all (fun x => flat (ρ x)) then
  match iK P (execOp ρ o) with
  | some (.value v) => if flat v then some (v, H) else none
  | _ => none
 else none
def b9X (P : Program) (o : Oper) (ρ : Operand → Value) (H : Heap) : Option (Value × Heap) :=
 let keep (v : Option Value) : Option (Value × Heap) := v.map fun v => (v, H)
 let plain : Option (Value × Heap) := b7b P o ρ H
 match o.op with
 | .move x | .assign x => some (ρ x, H)
 | .pick c a b => match ρ c with | .bool t => some (if t then ρ a else ρ b, H) | _ => none
 | .alloc t => (iU P t).bind fun z => if jA z then qS P H t z else none
 | .box t x => wB P H t (ρ x)
 | .build t parts =>
   let ps := parts.toList.map fun (i, x) => (i, ρ x)
   if (iU P t).any jA && ps.all (fun x => x.2.cells.toList.all oneCell) then
    (P.built t ps).map fun cs => (.agg cs, H)
   else none
 | .buildSlice t len parts =>
   (iF P t).bind fun elem => (iC P elem).bind fun size => (iU P elem).bind fun z =>
   let ps := parts.toList.map fun (i, x) => (i, ρ x)
   if len == 0 && ps.isEmpty && size != 0 then some (.slice (some ⟨H.length, 0, some 0⟩) 0 size, rF H elem []) else
   if jA z && ps.all (fun x => x.2.cells.toList.all oneCell) && len * size ≤ 2 ^ 24 && len * size != 0 && z.cells.size == size then
    (Instr.fill (fun i => some (i * size, size)) ((Array.range (len * size)).map (z.cells[· % z.cells.size]!)) ps).map fun cs =>
      (.slice (some ⟨H.length, 0, some cs.toList.length⟩) len size, rF H elem cs.toList)
   else none
 | .makeSlice t n c =>
   (iF P t).bind fun elem => (iC P elem).bind fun size => (nI P elem).bind fun bytes => (iU P elem).bind fun z =>
   match ρ n, ρ c with
   | .int .i64 a, .int .i64 b =>
     if jA z && decide (a ≤ b) && 0 ≤ a && b * (bytes + 1) ≤ (oO : Int) && size != 0 && z.cells.size == size then
      let cs := if size = 1 then List.replicate b.toNat (z.cells[0]!) else (madeCells z.cells (b.toNat * size)).toList
      some (.slice (some ⟨H.length, 0, some cs.length⟩) a.toNat size, rF H elem cs)
     else none
   | _, _ => none
 | .load t a => keep (lE P H t (ρ a))
 | .store t a x => (qH P H t (ρ a) (ρ x)).map fun H => (undef, H)
 | .nilCheck x => match ρ x with
   | .pointer (some a) => some (.pointer (some a), H)
   | .func (.func f) a b => some (.func (.func f) a b, H)
   | _ => none
 | .fieldAddr s x f => match ρ x with
   | .pointer (some ⟨A, i, some e⟩) => (nZ P s f).bind fun fd => (iC P fd.type).bind fun n => if n == 0 then none else some (.pointer (some ⟨A, i + fd.offset, some e⟩), H)
   | _ => none
 | .indexAddr t x ix => match P.underlying t, ρ x, ρ ix with
   | some (.slice elem), .slice (some ⟨A, i, some e⟩) n _, .int _ j => (iC P elem).bind fun size =>
     if 0 ≤ j && j < n then some (.pointer (some ⟨A, i + j.toNat * size, some e⟩), H) else none
   | some (.array n elem), .pointer (some ⟨A, i, some e⟩), .int _ j => (iC P elem).bind fun size =>
     if 0 ≤ j && j < n then some (.pointer (some ⟨A, i + j.toNat * size, some e⟩), H) else none
   | some (.array n elem), .pointer (some ⟨A, i, none⟩), .int _ j => (iC P elem).bind fun size =>
     if 0 ≤ j && j < n then some (.pointer (some ⟨A, i + j.toNat * size, none⟩), H) else none
   | _, _, _ => none
 | .slice t x lo hi none => if flat (ρ x) then plain else match jB P t with
   | some (n, elem) => keep (a4J P H n elem (ρ x) (lo.map ρ) (hi.map ρ))
   | none => keep (wH P t (ρ x) (lo.map ρ) (hi.map ρ))
 | .field t x f => if flat (ρ x) then plain else
   match ρ x with
   | .agg cs => (nZ P t f).bind fun fd => match jL P fd.type with
     | some true => (iC P fd.type).map fun n => (.agg (cs.extract fd.offset (fd.offset + n)), H)
     | some false => (cs[fd.offset]?).map fun v => (v, H)
     | none => none
   | _ => none
 | .extract t i => match ρ t with
   | .tuple vs => (vs[i]?).map fun v => (v, H)
   | _ => none
 | .makeFunc fn first captured => match fn with
   | .func f => if (first ++ captured).toList.all (fun x => mY (ρ x)) then some (.func (.func f) (first.map ρ) (captured.map ρ), H) else none
   | _ => none
 | .binOp op t x y _ => match op, ρ x, ρ y with
   | .eql, .slice (some _) _ _, .slice none 0 0 => if ((P.underlying t).map uU) == some true then some (.bool false, H) else none
   | .neq, .slice (some _) _ _, .slice none 0 0 => if ((P.underlying t).map uU) == some true then some (.bool true, H) else none
   | op, .int k a, .int k' b => if k = k' then (match mL op k a b with | some v => some (v, H) | none => plain) else plain
   | .eql, .pointer (some _), .pointer none => if sT P t then some (.bool false, H) else none
   | .neq, .pointer (some _), .pointer none => if sT P t then some (.bool true, H) else none
   | .eql, .pointer (some ⟨A, i, some e⟩), .pointer (some ⟨A', i', some e'⟩) => if sT P t && A == A' && i == i' && e == e' then some (.bool true, H) else none
   | .neq, .pointer (some ⟨A, i, some e⟩), .pointer (some ⟨A', i', some e'⟩) => if sT P t && A == A' && i == i' && e == e' then some (.bool false, H) else none
   | _, _, _ => plain
 | .call c => match c.callee with
   | .builtin .len => if c.args.size == 1 && c.argTypes.size == 1 then
      match (P.underlying (c.argTypes.getD 0 0)), ρ (c.args.getD 0 (.tmp 0)) with
      | some (.slice _), .slice a n k => keep (vZ H (.slice a n k))
      | some .string, .string s => keep (vZ H (.string s))
      | some (.map _ _), .map r => keep (vZ H (.map r))
      | _, _ => none
     else none
   | .builtin .append => if c.args.size == 2 && c.argTypes.size == 2 && ((P.underlying (c.argTypes.getD 1 0)).map pQ) == some true then
      nF P H (c.argTypes.getD 0 0) (ρ (c.args.getD 0 (.tmp 0))) (ρ (c.args.getD 1 (.tmp 0)))
     else none
   | .builtin .copy => if c.args.size == 2 && c.argTypes.size == 2 then a0X P H (c.argTypes.getD 0 0) (ρ (c.args.getD 0 (.tmp 0))) (ρ (c.args.getD 1 (.tmp 0))) else none
   | .builtin .clear => if c.args.size == 1 && c.argTypes.size == 1 then sI P H (c.argTypes.getD 0 0) (ρ (c.args.getD 0 (.tmp 0))) else none
   | .builtin .cap => plain
   | .builtin .unsafeSliceData => if c.args.size == 1 && c.argTypes.size == 1 then match ρ (c.args.getD 0 (.tmp 0)) with
      | .slice (some a) n _ => if n == 0 then none else some (.pointer (some a), H)
      | _ => none
     else none
   | .builtin .unsafeString => if c.args.size == 2 && c.argTypes.size == 2 then uH P H (c.argTypes.getD 0 0) (ρ (c.args.getD 0 (.tmp 0))) (ρ (c.args.getD 1 (.tmp 0))) else none
   | .builtin .max => plain
   | .builtin .min => plain
   | _ => none
 | .unOp op _ x => match op, ρ x with
   | .not, .bool b => some (.bool (!b), H)
   | _, _ => plain
 | .makeMap t r => pN P H t (r.map ρ)
 | .lookup t x k c => keep (pB P H t (ρ x) (ρ k) c)
 | .mapUpdate t m k v => (a0I P H t (ρ m) (ρ k) (ρ v)).map fun H => (undef, H)
 | .mapEntry t m k => qK P H t (ρ m) (ρ k)
 | .entryStore _ m b v => (qL H (ρ m) (ρ b) (ρ v)).map fun H => (undef, H)
 | .convert s t x => if flat (ρ x) && !(lA P t) then plain else match ρ x with
   | .slice (some ⟨A, i, some e⟩) n _ => if lA P s && oN P t then keep ((jD H A i e n).bind fun l => (nA l).map .string) else none
   | .string b => if lA P t && oN P s && b.size ≤ 2 ^ 40 then (iF P t).bind fun elem => some (.slice (some ⟨H.length, 0, some b.size⟩) b.size 1, b4S H elem (b.data.toList.map fun c => .int .u8 c.toNat)) else none
   | .pointer (some ⟨A, 0, some e⟩) => if a2Y P H s t A e then some (.pointer (some ⟨A, 0, some e⟩), H) else none
   | _ => none
 | .index _ _ _ => plain
 | .makeInterface _ _ => plain
 | _ => none
def nN {α : Type} (b : Bool) (no : α) (x : α) : α := Bool.rec (motive := fun _ => α) no x b
def a7y {α : Type} (cs : List α) : Nat → Bool := List.rec (motive := fun _ => Nat → Bool) (fun e => Nat.beq e 0) (fun _ _ ih e => Nat.rec (motive := fun _ => Bool) true (fun m _ => ih m) e) cs
def a3d {α : Type} (cs : List α) : Nat → Bool := List.rec (motive := fun _ => Nat → Bool) (fun e => Nat.beq e 0) (fun _ _ ih e => Nat.rec (motive := fun _ => Bool) false (fun m _ => ih m) e) cs
def a0F {α : Type} (cs : List α) : Nat → Option α := List.rec (motive := fun _ => Nat → Option α) (fun _ => none) (fun v _ ih e => Nat.rec (motive := fun _ => Option α) (some v) (fun m _ => ih m) e) cs
def a1r {α : Type} (cs : List α) : Nat → (List α → Rs) → Rs := List.rec (motive := fun _ => Nat → (List α → Rs) → Rs) (fun n K => Nat.rec (motive := fun _ => Rs) (K []) (fun _ _ => .no) n) (fun v _ ih n K => Nat.rec (motive := fun _ => Rs) (K []) (fun m _ => ih m fun l => K (v :: l)) n) cs
def b0r {α : Type} (cs : List α) : Nat → List α := List.rec (motive := fun _ => Nat → List α) (fun _ => []) (fun v t ih n => Nat.rec (motive := fun _ => List α) (v :: t) (fun m _ => ih m) n) cs
def kIx (k : IntKind) : Nat := IntKind.rec (motive := fun _ => Nat) 0 1 2 3 4 5 6 7 k
def hMv (x : LArg) (f : Fr) (H : Heap) : Rs := oG (mK f x) fun v => .ok v H
def b4D (c a b : LArg) (f : Fr) (H : Heap) : Rs := match mK f c with
 | .bool t => oG (mK f (Bool.rec (motive := fun _ => LArg) b a t)) fun v => .ok v H
 | _ => .no
def oV (v : Option Value) (H : Heap) : Rs := Option.rec (motive := fun _ => Rs) .no (fun v => .th v H) v
def b9v (g : IntKind → Int → Int → Option Value) (k : IntKind) (a : Int) (H : Heap) (y : Value) : Rs := match y with
 | .int k' b => nN (Nat.beq (kIx k) (kIx k')) .no (oV (g k a b) H)
 | _ => .no
def c1m (g : IntKind → Int → Int → Option Value) (x y : LArg) (f : Fr) (H : Heap) : Rs := match mK f x with
 | .int k a => b9v g k a H (mK f y)
 | _ => .no
def c4G (x : LArg) (f : Fr) (H : Heap) : Rs := match mK f x with
 | .bool b => .ok (.bool (Bool.rec (motive := fun _ => Bool) true false b)) H
 | _ => .no
def b7Z (b : Option Blk) (i e : Nat) (H : Heap) : Rs := match b with
 | some (.cells cs _ _ lo _) => nN (Nat.ble lo e) .no (nN (a7y cs e) .no (nN (Nat.ble (Nat.succ i) e) .no (Option.rec (motive := fun _ => Rs) .no (fun v => oG v fun v => .ok v H) (a0F cs i))))
 | _ => .no
def c0X (b : Option Blk) (i : Nat) (H : Heap) : Rs := match b with
 | some (.cells cs _ false lo 1) => nN (a7y cs lo) .no (Option.rec (motive := fun _ => Rs) .no (fun v => oG v fun v => .ok v H) (a0F cs i))
 | _ => .no
def b2z (x : LArg) (f : Fr) (H : Heap) : Rs := match mK f x with
 | .pointer (some ⟨A, i, some e⟩) => b7Z (iL H A) i e H
 | .pointer (some ⟨A, i, none⟩) => c0X (iL H A) i H
 | _ => .no
def b8k (b : Option Blk) (n i e : Nat) (H : Heap) : Rs := match b with
 | some (.cells cs _ _ lo _) => nN (Nat.ble lo e) .no (nN (a7y cs e) .no (nN (Nat.ble (Nat.add i n) e) .no (a1r (b0r cs i) n fun l => .ok (.agg ⟨l⟩) H)))
 | _ => .no
def b2m (n : Nat) (x : LArg) (f : Fr) (H : Heap) : Rs := match mK f x with
 | .pointer (some ⟨A, i, some e⟩) => b8k (iL H A) n i e H
 | _ => .no
def stB (b : Option Blk) (n A i e : Nat) (vs : List Value) (H : Heap) : Rs := match b with
 | some (.cells cs ty true lo ver) => nN (a3d vs n) .no (nN (vs.all oneCell) .no (nN (a3d cs e) .no (nN (Nat.ble (Nat.add i n) e) .no (nN (Nat.ble lo e) .no
    (.th undef (hset H A (.cells (iX cs i vs) ty true e ver)))))))
 | _ => .no
def hSt (n : Nat) (x y : LArg) (f : Fr) (H : Heap) : Rs := match mK f x with
 | .pointer (some ⟨A, i, some e⟩) => stB (iL H A) n A i e (mK f y).cells.toList H
 | _ => .no
def hFa (off : Nat) (x : LArg) (f : Fr) (H : Heap) : Rs := match mK f x with
 | .pointer (some ⟨A, i, some e⟩) => jX (Nat.add i off) fun i => .ok (.pointer (some ⟨A, i, some e⟩)) H
 | _ => .no
def ixP (A i e size n : Nat) (H : Heap) (j : Value) : Rs := match j with
 | .int _ (.ofNat j) => nN (Nat.blt j n) .no (jX (Nat.add i (Nat.mul j size)) fun i => .ok (.pointer (some ⟨A, i, some e⟩)) H)
 | _ => .no
def b9V (size : Nat) (x i : LArg) (f : Fr) (H : Heap) : Rs := match mK f x with
 | .slice (some ⟨A, a, some e⟩) n _ => ixP A a e size n H (mK f i)
 | _ => .no
def ixG (A i size n : Nat) (H : Heap) (j : Value) : Rs := match j with
 | .int _ (.ofNat j) => nN (Nat.blt j n) .no (jX (Nat.add i (Nat.mul j size)) fun i => .ok (.pointer (some ⟨A, i, none⟩)) H)
 | _ => .no
def c0D (n size : Nat) (x i : LArg) (f : Fr) (H : Heap) : Rs := match mK f x with
 | .pointer (some ⟨A, a, some e⟩) => ixP A a e size n H (mK f i)
 | .pointer (some ⟨A, a, none⟩) => ixG A a size n H (mK f i)
 | _ => .no
def okV (v : Option Value) (H : Heap) : Rs := Option.rec (motive := fun _ => Rs) .no (fun v => oG v fun v => .ok v H) v
def c1r (i : Nat) (x : LArg) (f : Fr) (H : Heap) : Rs := match mK f x with
 | .tuple ⟨vs⟩ => okV (a0F vs i) H
 | _ => .no
def hF1 (off : Nat) (x : LArg) (f : Fr) (H : Heap) : Rs := match mK f x with
 | .agg ⟨cs⟩ => okV (a0F cs off) H
 | _ => .no
def hFn (off n : Nat) (x : LArg) (f : Fr) (H : Heap) : Rs := match mK f x with
 | .agg ⟨cs⟩ => a1r (b0r cs off) n fun l => .ok (.agg ⟨l⟩) H
 | _ => .no
def c1g (x : LArg) (f : Fr) (H : Heap) : Rs := match mK f x with
 | .slice _ n _ => .th (goInt n) H
 | _ => .no
def b3s (x : LArg) (f : Fr) (H : Heap) : Rs := match mK f x with
 | .string s => .th (goInt s.size) H
 | _ => .no
def c2u (b : Option Blk) (elem size bytes A i e k : Nat) (n : Nat) (l : List Value) (P : Program) (H : Heap) : Rs := match b with
 | some (.cells cs ty true lo ver) => nN (Bool.rec (motive := fun _ => Bool) (iC P ty == some size) true (Nat.beq ty elem)) .no (nN (a3d cs e) .no (nN (Nat.ble lo e) .no
    (nN (Nat.beq (Nat.add i (Nat.mul k size)) e)
      (nN (Nat.beq n 0) (nN (Nat.ble (Nat.add i (Nat.mul (Nat.add k n) size)) e) .no (.th (.slice (some ⟨A, i, some e⟩) (k + n) size) (hset H A (.cells (iX cs (i + k * size) l) ty true e ver)))) .no)
      (nN (Nat.ble (Nat.mul (Nat.add k n) (Nat.succ bytes)) oO) .no (.th (.slice (some ⟨A, i, some (e + l.length)⟩) (k + n) size) (hset H A (.cells (a3X cs l) ty true lo (Bool.rec (motive := fun _ => Nat) 2 ver (Nat.beq ty elem)))))))))
 | _ => .no
def c2o (P : Program) (elem size bytes : Nat) (s : Value) (H : Heap) (n : Nat) (l : List Value) : Rs := match s with
 | .slice none k c => nN (Nat.beq k 0) .no (nN (Nat.beq c 0) .no (nN (Nat.ble (Nat.mul n (Nat.succ bytes)) oO) .no (nN (Nat.beq n 0) (.th (.slice (some ⟨H.length, 0, some l.length⟩) n size) (rF H elem l)) (.ok (.slice none 0 0) H))))
 | .slice (some ⟨A, i, some e⟩) k _ => c2u (iL H A) elem size bytes A i e k n l P H
 | _ => .no
def c0g (P : Program) (elem size bytes : Nat) (x y : LArg) (f : Fr) (H : Heap) : Rs := match zL H size (mK f y) with
 | some (n, l) => c2o P elem size bytes (mK f x) H n l
 | none => .no
def c0v (t : TypeId) (cs : List Value) (_ : Fr) (H : Heap) : Rs := .th (.pointer (some ⟨H.length, 0, some cs.length⟩)) (rF H t cs)
def evF (f : Fr) : Operand → Value
 | .tmp t => nQ (kQ t) f
 | .const v => v
 | .global g => .pointer (some ⟨g, 0, none⟩)
 | .func k => .func (.func k) #[] #[]
def c4Q (P : Program) (o : Oper) (f : Fr) (H : Heap) : Rs := match b9X P o (evF f) H with
 | some (v, H1) => .th v H1
 | none => .no
def a3s {α : Type} (f : Fr) (l : List LArg) : (List Value → α) → α := List.rec (motive := fun _ => (List Value → α) → α) (fun K => K []) (fun x _ ih K => oG (mK f x) fun v => ih fun l => K (v :: l)) l
structure Calls' where
 fn : Pth → FuncId → List Value → Heap → Rs
 rd : Nat → List Value → Heap → Rs
def c0H (C : Calls') (k : FuncId) (p : Pth) (args : List LArg) (f : Fr) (H : Heap) : Rs := a3s f args fun l => C.fn p k l H
def a9h (C : Calls') (l : List Value) (H : Heap) (g : Value) : Rs := match g with
 | .func (.func k) ⟨a⟩ ⟨b⟩ => jX k fun k => lO (kQ k) fun p => C.fn p k (a3X a (a3X l b)) H
 | .func (.yield L) _ _ => C.rd L l H
 | _ => .no
def c1f (C : Calls') (g : LArg) (args : List LArg) (f : Fr) (H : Heap) : Rs := a3s f args fun l => a9h C l H (mK f g)
def c4X (_ : Fr) (_ : Heap) : Rs := .no
def opF (P : Program) (C : Calls') (o : LOp) : Fr → Heap → Rs :=
 LOp.rec (motive := fun _ => Fr → Heap → Rs) c4X hMv b4D c1m c4G b2z b2m hSt hFa b9V c0D c1r hF1 hFn c1g b3s (c0g P) c0v (c0H C) (c1f C) (c4Q P) o
inductive Rf where
 | no
 | ok (f : Fr) (H : Heap)
def tM {α : Type} (d : Option Pth) (v : Value) (f : Fr) (K : Fr → α) : α := Option.rec (motive := fun _ => α) (K f) (fun p => pP v p f K) d
def a9R {α : Type} (no : α) (d : Option Pth) (f : Fr) (K : Fr → Heap → α) (r : Rs) : α :=
 Rs.rec (motive := fun _ => α) no (fun v H => tM d v f fun f => K f H) (fun v H => wP v fun v => nH H fun H => tM d v f fun f => K f H) r
def isB (v : Value) (w : Bool) : Bool := match v with
 | .bool b => Bool.rec (motive := fun _ => Bool) (Bool.rec (motive := fun _ => Bool) true false w) w b
 | _ => false
def xC (P : Program) (C : Calls') (ops : LOps) : Fr → Heap → Rf := LOps.rec (motive := fun _ => Fr → Heap → Rf)
 (fun f H => .ok f H)
 (fun d o _ ih f H => a9R .no d f ih (opF P C o f H))
 (fun p w d o _ ih f H => nN (isB (nQ p f) w) (tM d undef f fun f => ih f H) (a9R .no d f ih (opF P C o f H))) ops
inductive Rt where
 | no
 | ok (tr : List (Fr × Heap × Value)) (f : Fr) (H : Heap)
def a9V (tr : List (Fr × Heap × Value)) (f0 : Fr) (H0 : Heap) (d : Option Pth) (K : List (Fr × Heap × Value) → Fr → Heap → Rt) (r : Rs) : Rt :=
 Rs.rec (motive := fun _ => Rt) .no (fun v H => tM d v f0 fun f => K ((f0, H0, v) :: tr) f H) (fun v H => wP v fun v => nH H fun H => tM d v f0 fun f => K ((f0, H0, v) :: tr) f H) r
def qX (P : Program) (C : Calls') (ops : LOps) : List (Fr × Heap × Value) → Fr → Heap → Rt := LOps.rec (motive := fun _ => List (Fr × Heap × Value) → Fr → Heap → Rt)
 (fun tr f H => .ok tr f H)
 (fun d o _ ih tr f H => a9V tr f H d ih (opF P C o f H))
 (fun p w d o _ ih tr f H => nN (isB (nQ p f) w) (tM d undef f fun f1 => ih ((f, H, undef) :: tr) f1 H) (a9V tr f H d ih (opF P C o f H))) ops
def b7V (v : Value) (r : Rs) : Bool := Rs.rec (motive := fun _ => Bool) false (fun w _ => veq w v) (fun w _ => veq w v) r
def b4l (f : Fr) (g : Option (Pth × Bool)) : Bool := match g with
 | none => true
 | some (p, w) => isB (nQ p f) w
def b4L (P : Program) (C : Calls') (tr : List (Fr × Heap × Value)) (H1 : Heap) (x : Nat × Option Nat × Option (Pth × Bool) × LOp) : Bool :=
 match a0F tr x.1 with
 | some (f, _, v) => nN (b4l f x.2.2.1) true (match x.2.1 with
   | none => b7V v (opF P C x.2.2.2 f H1)
   | some m => match a0F tr m with
     | some (_, H, _) => b7V v (opF P C x.2.2.2 f H)
     | none => false)
 | none => false
def b5W {α : Type} (p : α → Bool) (l : List α) : Bool := List.rec (motive := fun _ => Bool) true (fun x _ ih => nN (p x) false ih) l
inductive Rc where
 | no
 | ok (e : Ex) (f : Fr) (H : Heap)
def c2J (r : Rf) : Rc := Rf.rec (motive := fun _ => Rc) .no (fun f H => .ok .normal f H) r
def b9c (P : Program) (C : Calls') (tab : List (Nat × Option Nat × Option (Pth × Bool) × LOp)) (r : Rt) : Rc := Rt.rec (motive := fun _ => Rc) .no (fun tr f H => nN (b5W (b4L P C tr H) tab) .no (.ok .normal f H)) r
def oW {α : Type} (no : α) (l : List Value) : List Pth → Fr → (Fr → α) → α := List.rec (motive := fun _ => List Pth → Fr → (Fr → α) → α) (fun _ f K => K f)
 (fun v _ ih ps f K => List.rec (motive := fun _ => α) no (fun p ps _ => pP v p f fun f => ih ps f K) ps) l
def a3V (H : Heap) (f : Fr) (r : LRes) : Rs := LRes.rec (motive := fun _ => Rs) (fun p => oG (nQ p f) fun v => .ok v H) (fun p => b2z (.t p) f H) (fun n p => b2m n (.t p) f H) r
def b4c (H : Heap) (f : Fr) (l : List LRes) : (List Value → Rs) → Rs := List.rec (motive := fun _ => (List Value → Rs) → Rs) (fun K => K []) (fun r _ ih K => Rs.rec (motive := fun _ => Rs) .no (fun v _ => ih fun l => K (v :: l)) (fun _ _ => .no) (a3V H f r)) l
def noT (v : Value) : Bool := match v with | .tuple _ => false | _ => true
def a6y (l : List LRes) (f : Fr) (H : Heap) : Rs := match l with
 | [r] => a3V H f r
 | l => b4c H f l fun vs => nN (b5W noT vs) .no (.ok (.tuple ⟨vs⟩) H)
def c0F (l : List LRes) (r : Rc) : Rs := match r with
 | .ok .normal f H => a6y l f H
 | .ok .ret f H => a6y l f H
 | _ => .no
abbrev pZ := List LEnv → LCode → Fr → Heap → Rc
def c0r (P : Program) (k : FuncId) (args : List Value) (H : Heap) : Rs := match pV P k args H with
 | some (v, H1) => .th v H1
 | none => .no
def oE (T : LT) (ih : pZ) (E : List LEnv) (p : Pth) (args : List Value) (H : Heap) : Rs := match a1M p T with
 | some g => oW .no args g.ps .e fun f => c0F g.res (ih E g.body f H)
 | none => .no
def b4s (P : Program) (T : LT) (ih : pZ) (E : List LEnv) (p : Pth) (k : FuncId) (args : List Value) (H : Heap) : Rs := match a1M p T with
 | some g => oW .no args g.ps .e fun f => c0F g.res (ih E g.body f H)
 | none => c0r P k args H
def b4H (E : List LEnv) (L : Nat) : Option LEnv := List.rec (motive := fun _ => Option LEnv) none (fun e _ ih => nN (Nat.beq e.L L) ih (some e)) E
def b8M (e : Ex) : Option Code := match e with | .normal => none | .ret => some .ret | .exit id => some (.exit id)
def a2b (L : Nat) (e : Ex) (H : Heap) : Rs := match iL H L with
 | some (.loop ⟨_, _, fn, tmps, ps, a, b, d⟩) => match b8M e with
   | none => .th (.bool true) (hset H L (.loop ⟨.ready, none, fn, tmps, ps, a, b, d⟩))
   | some c => .th (.bool false) (hset H L (.loop ⟨.done, some c, fn, tmps, ps, a, b, d⟩))
 | _ => .no
def b1t (L : Nat) (r : Rc) : Rs := match r with
 | .ok e _ H => a2b L e H
 | .no => .no
def zK (ih : pZ) (E : List LEnv) (en : LEnv) (f : Fr) (H : Heap) : Rs := match iL H en.L with
 | some (.loop ⟨.ready, p, fn, tmps, ps, a, b, d⟩) => nH (hset H en.L (.loop ⟨.busy, p, fn, tmps, ps, a, b, d⟩)) fun H => b1t en.L (ih E en.b f H)
 | _ => .no
def sH (ih : pZ) (E : List LEnv) (en : LEnv) (r : Rc) : Rs := match r with
 | .ok .normal f H => zK ih E en f H
 | _ => .no
def a8S (ih : pZ) (E : List LEnv) (L : Nat) (args : List Value) (H : Heap) : Rs := match b4H E L with
 | some en => match iL H L with
   | some (.loop ⟨.ready, _, _, ⟨tmps⟩, ps, _, _, _⟩) => nN (a3d args ps.size) .no (oW .no tmps en.ps .e fun f => oW .no args en.pp f fun f => sH ih E en (ih E en.a f H))
   | _ => .no
 | none => .no
def zZ (P : Program) (T : LT) (ih : pZ) (E : List LEnv) : Calls' := ⟨b4s P T ih E, a8S ih E⟩
def c4p (_ : Fr) (_ : Heap) : Rc := .no
def c1Q (f : Fr) (H : Heap) : Rc := .ok .normal f H
def c5c (P : Program) (T : LT) (ih : pZ) (E : List LEnv) (ops : LOps) (f : Fr) (H : Heap) : Rc := c2J (xC P (zZ P T ih E) ops f H)
def c5k (P : Program) (T : LT) (ih : pZ) (E : List LEnv) (ops : LOps) (tab : List (Nat × Option Nat × Option (Pth × Bool) × LOp)) (f : Fr) (H : Heap) : Rc := b9c P (zZ P T ih E) tab (qX P (zZ P T ih E) ops [] f H)
def b7s (ih : pZ) (E : List LEnv) (b : LCode) (r : Rc) : Rc := match r with
 | .ok .normal f H => ih E b f H
 | r => r
def c4U (ih : pZ) (E : List LEnv) (a b : LCode) (_ _ : Fr → Heap → Rc) (f : Fr) (H : Heap) : Rc := b7s ih E b (ih E a f H)
def b3n (ih : pZ) (E : List LEnv) (c : LArg) (x y : LCode) (_ _ : Fr → Heap → Rc) (f : Fr) (H : Heap) : Rc := match mK f c with
 | .bool t => ih E (Bool.rec (motive := fun _ => LCode) y x t) f H
 | _ => .no
def c1Z (id : Nat) (r : Rc) : Rc := match r with
 | .ok (.exit i) f H => .ok (Bool.rec (motive := fun _ => Ex) (.exit i) .normal (Nat.beq i id)) f H
 | r => r
def c0V (ih : pZ) (E : List LEnv) (id : Nat) (b : LCode) (_ : Fr → Heap → Rc) (f : Fr) (H : Heap) : Rc := c1Z id (ih E b f H)
def c2v (ih : pZ) (E : List LEnv) (b : LCode) (_ : Fr → Heap → Rc) (f : Fr) (H : Heap) : Rc := b7s ih E (.loop b) (ih E b f H)
def c3J (id : Nat) (f : Fr) (H : Heap) : Rc := .ok (.exit id) f H
def c5B (f : Fr) (H : Heap) : Rc := .ok .ret f H
def frL {α : Type} (f : Fr) (ps : List Pth) : (List Value → α) → α := List.rec (motive := fun _ => (List Value → α) → α) (fun K => K []) (fun p _ ih K => oG (nQ p f) fun v => ih fun l => K (v :: l)) ps
def tI (L : Nat) (f : Fr) (H : Heap) : Rc := match iL H L with
 | some (.loop ⟨.ready, none, fn, tmps, ps, a, b, d⟩) => nH (hset H L (.loop ⟨.exhausted, none, fn, tmps, ps, a, b, d⟩)) fun H => .ok .normal f H
 | some (.loop ⟨.done, none, fn, tmps, ps, a, b, d⟩) => nH (hset H L (.loop ⟨.exhausted, none, fn, tmps, ps, a, b, d⟩)) fun H => .ok .normal f H
 | some (.loop ⟨.done, some .ret, fn, tmps, ps, a, b, d⟩) => nH (hset H L (.loop ⟨.exhausted, some .ret, fn, tmps, ps, a, b, d⟩)) fun H => .ok .ret f H
 | some (.loop ⟨.done, some (.exit id), fn, tmps, ps, a, b, d⟩) => nH (hset H L (.loop ⟨.exhausted, some (.exit id), fn, tmps, ps, a, b, d⟩)) fun H => .ok (.exit id) f H
 | _ => .no
def b0O (L : Nat) (f : Fr) (r : Rs) : Rc := match r with
 | .no => .no
 | .ok _ H => tI L f H
 | .th _ H => nH H fun H => tI L f H
def b0s (T : LT) (ih : pZ) (E : List LEnv) (f : Fr) (L : Nat) (k : FuncId) (args : List Value) (H : Heap) : Rc := lO (kQ k) fun p => b0O L f (oE T ih E p args H)
def a7D (T : LT) (ih : pZ) (E : List LEnv) (g : LArg) (ps pp : List Pth) (params : Array Tmp) (assign body : Code) (a b : LCode) (_ _ : Fr → Heap → Rc) (f : Fr) (H : Heap) : Rc := match mK f g with
 | .func (.func k) ⟨x⟩ ⟨y⟩ => jX H.length fun L => frL f ps fun l => nH (H.cons (.loop ⟨.ready, none, 0, ⟨l⟩, params, assign, body, 0⟩)) fun H1 =>
    jX k fun k => b0s T ih (⟨L, ps, pp, a, b⟩ :: E) f L k (a3X x (.func (.yield L) #[] #[] :: y)) H1
 | _ => .no
def b0c (P : Program) (T : LT) (ih : pZ) (E : List LEnv) (c : LCode) : Fr → Heap → Rc :=
 LCode.rec (motive := fun _ => Fr → Heap → Rc) c4p c1Q (c5c P T ih E) (c5k P T ih E) (c4U ih E) (b3n ih E) (c0V ih E) (c2v ih E) c3J c5B (a7D T ih E) c
def exF (P : Program) (T : LT) (n : Nat) : pZ := Nat.rec (motive := fun _ => pZ) (fun _ _ _ _ => .no) (fun _ ih => b0c P T ih) n
section
variable {α : Type}
def lP (x : Operand) (K : LArg → α) : α := match x with
 | .tmp t => lO (kQ t) fun p => K (.t p)
 | .const v => K (.c v)
 | .global g => K (.c (.pointer (some ⟨g, 0, none⟩)))
 | .func k => K (.c (.func (.func k) #[] #[]))
def a4o (l : List Operand) : (List LArg → α) → α := List.rec (motive := fun _ => (List LArg → α) → α) (fun K => K []) (fun x _ ih K => lP x fun x => ih fun l => K (x :: l)) l
def a2C (o : Option Nat) (d : α) (K : Nat → α) : α := match o with
 | some n => jX n K
 | none => d
def c4n (k : IntKind) (a b : Int) : Option Value := some (.int k (vI k (b6l a b)))
def c4r (k : IntKind) (a b : Int) : Option Value := some (.int k (vI k (b7q a b)))
def c2H (a b : Int) : Int := match a, b with
 | .ofNat a, .ofNat b => .ofNat (Nat.mul a b)
 | a, b => a * b
def c1N (k : IntKind) (a b : Int) : Option Value := some (.int k (vI k (c2H a b)))
def c3H (a b : Int) : Int := match a, b with
 | .ofNat a, .ofNat b => .ofNat (Nat.div a b)
 | a, b => a.tdiv b
def c1X (a b : Int) : Int := match a, b with
 | .ofNat a, .ofNat b => .ofNat (Nat.mod a b)
 | a, b => a.tmod b
def b7h (k : IntKind) (a b : Int) : Option Value := match eqI b 0 with | true => none | false => some (.int k (vI k (c3H a b)))
def b8d (k : IntKind) (a b : Int) : Option Value := match eqI b 0 with | true => none | false => some (.int k (c1X a b))
def c5v (_ : IntKind) (a b : Int) : Option Value := some (.bool (eqI a b))
def c5a (_ : IntKind) (a b : Int) : Option Value := some (.bool (!eqI a b))
def c5f (_ : IntKind) (a b : Int) : Option Value := some (.bool (ltI a b))
def c5i (_ : IntKind) (a b : Int) : Option Value := some (.bool (!ltI b a))
def c5t (_ : IntKind) (a b : Int) : Option Value := some (.bool (ltI b a))
def c4I (_ : IntKind) (a b : Int) : Option Value := some (.bool (!ltI a b))
def b8c (op : BinOp) : Option (IntKind → Int → Int → Option Value) := match op with
 | .add => some c4n
 | .sub => some c4r
 | .mul => some c1N
 | .quo => some b7h
 | .rem => some b8d
 | .eql => some c5v
 | .neq => some c5a
 | .lss => some c5f
 | .leq => some c5i
 | .gtr => some c5t
 | .geq => some c4I
 | _ => none
def c0h (d : Option TypeDesc) : Bool := match d with | some (.int _) => true | _ => false
def c5E (P : Program) (s : TypeId) (f : Nat) (d : α) (K1 : Nat → α) (Kn : Nat → Nat → α) : α := match nZ P s f with
 | some fd => jX fd.offset fun off => match jL P fd.type with
   | some true => a2C (iC P fd.type) d fun n => Kn off n
   | some false => K1 off
   | none => d
 | none => d
def b6e (P : Program) (o : Oper) (c : Call) (K : LOp → α) : α := match c.callee with
 | .value (.func k) => lO (kQ k) fun p => a4o c.args.toList fun l => K (.callF k p l)
 | .value g => lP g fun g => a4o c.args.toList fun l => K (.callV g l)
 | .builtin .len => nN (c.args.size == 1 && c.argTypes.size == 1) (K (.gen o)) (match P.underlying (c.argTypes.getD 0 0) with
    | some (.slice _) => lP (c.args.getD 0 (.tmp 0)) fun x => K (.len x)
    | some .string => lP (c.args.getD 0 (.tmp 0)) fun x => K (.slen x)
    | _ => K (.gen o))
 | .builtin .append => nN (c.args.size == 2 && c.argTypes.size == 2 && ((P.underlying (c.argTypes.getD 1 0)).map pQ) == some true) (K (.gen o))
    (match iF P (c.argTypes.getD 0 0) with
     | some elem => a2C (iC P elem) (K (.gen o)) fun size => a2C (nI P elem) (K (.gen o)) fun bytes => match iU P elem with
       | some z => nN (z.cells.size == size && size != 0) (K (.gen o)) (jX elem fun elem => lP (c.args.getD 0 (.tmp 0)) fun x => lP (c.args.getD 1 (.tmp 0)) fun y => K (.app elem size bytes x y))
       | none => K (.gen o)
     | none => K (.gen o))
 | _ => K (.gen o)
def c2m (P : Program) (o : Oper) (K : LOp → α) : α := match o.op with
 | .move x => lP x fun x => K (.mv x)
 | .assign x => lP x fun x => K (.mv x)
 | .pick c a b => lP c fun c => lP a fun a => lP b fun b => K (.pick c a b)
 | .binOp op t x y _ => nN (c0h (P.underlying t)) (K (.gen o)) (match b8c op with
   | some g => lP x fun x => lP y fun y => K (.bin g x y)
   | none => K (.gen o))
 | .load t x => match jL P t with
   | some true => a2C (iC P t) (K (.gen o)) fun n => lP x fun x => K (.ldn n x)
   | some false => lP x fun x => K (.ld1 x)
   | none => K (.gen o)
 | .store t x y => a2C (iC P t) (K (.gen o)) fun n => lP x fun x => lP y fun y => K (.st n x y)
 | .fieldAddr s x f => match nZ P s f with
   | some fd => match iC P fd.type with
     | some 0 => K (.gen o)
     | some _ => jX fd.offset fun off => lP x fun x => K (.fa off x)
     | none => K (.gen o)
   | none => K (.gen o)
 | .indexAddr t x i => match P.underlying t with
   | some (.slice elem) => a2C (iC P elem) (K (.gen o)) fun size => lP x fun x => lP i fun i => K (.ixs size x i)
   | some (.array n elem) => a2C (iC P elem) (K (.gen o)) fun size => lP x fun x => lP i fun i => K (.ixa n size x i)
   | _ => K (.gen o)
 | .extract t i => jX i fun i => lP t fun t => K (.ext i t)
 | .call c => b6e P o c K
 | _ => K (.gen o)
def xT (P : Program) (o : Oper) (K : LOp → α) : α := nN (o.op.operands.toList.all iR) (K .bad) (c2m P o K)
def a5U (k : Nat) (d : Option Tmp) (no : α) (K : Option Pth → α) : α := match d with
 | none => K none
 | some t => nN (Nat.blt t k) no (lO (kQ t) fun p => K (some p))
def tJ (P : Program) (k : Nat) (ops : Array Oper) (l : List Oper) : (LOps → α) → α → α := List.rec (motive := fun _ => (LOps → α) → α → α) (fun K _ => K .nil)
 (fun o _ ih K no => a5U k o.dst no fun d => xT P o fun o' => match o.guard with
   | none => ih (fun r => K (.cons d o' r)) no
   | some (j, w) => match (ops[j]?).bind (·.dst) with
     | some t => nN (Nat.blt t k) no (lO (kQ t) fun p => yY w fun w => ih (fun r => K (.gcons p w d o' r)) no)
     | none => no) l
def loG (k : Nat) (ops : Array Oper) (g : Option (Nat × Bool)) (no : α) (K : Option (Pth × Bool) → α) : α := match g with
 | none => K none
 | some (j, w) => match (ops[j]?).bind (·.dst) with
   | some t => nN (Nat.blt t k) no (lO (kQ t) fun p => yY w fun w => K (some (p, w)))
   | none => no
def sX (P : Program) (k : Nat) (ops : Array Oper) (N : Nat) (tab : List (Nat × Nat)) : (List (Nat × Option Nat × Option (Pth × Bool) × LOp) → α) → α → α := List.rec (motive := fun _ => (List (Nat × Option Nat × Option (Pth × Bool) × LOp) → α) → α → α) (fun K _ => K [])
 (fun x _ ih K no => match ops[x.1]? with
   | some o => loG k ops o.guard no fun g => xT P o fun o' => jX (N - 1 - x.1) fun i => nN (Nat.blt x.2 N) (ih (fun l => K ((i, none, g, o') :: l)) no) (jX (N - 1 - x.2) fun m => ih (fun l => K ((i, some m, g, o') :: l)) no)
   | none => no) tab
def b3Q (k : Nat) : (List Pth → α) → α := Nat.rec (motive := fun _ => (List Pth → α) → α) (fun K => K []) (fun n ih K => lO (kQ n) fun p => ih fun l => K (p :: l)) k
def c0p {β : Type} (l : List β) : List β → (List β → α) → α := List.rec (motive := fun _ => List β → (List β → α) → α) (fun a K => K a) (fun x _ ih a K => ih (x :: a) K) l
def b2O (k : Nat) (K : List Pth → α) : α := b3Q k fun l => c0p l [] K
def wA (k : Nat) (l : List Tmp) : (List Pth → α) → α → α := List.rec (motive := fun _ => (List Pth → α) → α → α) (fun K _ => K []) (fun t _ ih K no => nN (Nat.blt t k) no (lO (kQ t) fun p => ih (fun l => K (p :: l)) no)) l
def mX (P : Program) (k : Nat) (c : Code) : (LCode → α) → α := Code.rec (motive := fun _ => (LCode → α) → α)
 (fun K => K .skip)
 (fun _ ops d K => Bool.rec (motive := fun _ => α) (tJ P k ops ops.toList (fun l => K (.reg l)) (K .bad))
   (match mS P ops with
     | some [] => tJ P k ops ops.toList (fun l => K (.reg l)) (K .bad)
     | some tab => tJ P k ops ops.toList (fun l => sX P k ops ops.size tab (fun t => K (.drw l t)) (K .bad)) (K .bad)
     | none => K .bad) d)
 (fun _ _ iha ihb K => iha fun a => ihb fun b => K (.seq a b))
 (fun c _ _ ihx ihy K => nN (iR c) (K .bad) (lP c fun c => ihx fun x => ihy fun y => K (.cond c x y)))
 (fun id _ ih K => jX id fun id => ih fun b => K (.block id b))
 (fun _ ih K => ih fun b => K (.loop b))
 (fun g ps assign body iha ihb K => nN (iR g) (K .bad) (lP g fun g' => b2O k fun pp => wA k ps.toList (fun q => iha fun a => ihb fun b => K (.range g' pp q ps assign body a b)) (K .bad)))
 (fun id K => jX id fun id => K (.exit id))
 (fun _ _ K => K .bad)
 (fun _ K => K .skip)
 (fun _ K => K .bad)
 (fun K => K .ret)
 (fun _ K => K .bad) c
def a0y (P : Program) (l : List ResultVar) : (List LRes → α) → α → α := List.rec (motive := fun _ => (List LRes → α) → α → α) (fun K _ => K [])
 (fun r _ ih K no => match r with
   | .tmp t => lO (kQ t) fun p => ih (fun l => K (.t p :: l)) no
   | .cell a t => match jL P t with
     | some true => a2C (iC P t) no fun n => lO (kQ a) fun p => ih (fun l => K (.cn n p :: l)) no
     | some false => lO (kQ a) fun p => ih (fun l => K (.c1 p :: l)) no
     | none => no) l
def a2o (P : Program) (f : FuncId) (no : α) (K : LFunc → α) : α := match P.funcs[f]? with
 | some fn => match fn.body with
   | some c => nN (fn.name == "runtime.NumGoroutine") (a0y P fn.results.toList (fun res => b2O fn.ntmps fun ps => mX P fn.ntmps c fun b => K ⟨ps, b, res⟩) no) no
   | none => no
 | none => no
def tO (P : Program) (fs : List FuncId) : LT → (LT → α) → α := List.rec (motive := fun _ => LT → (LT → α) → α) (fun T K => K T)
 (fun f _ ih T K => a2o P f (ih T K) fun g => lO (kQ f) fun p => rN g p T fun T => ih T K) fs
end
end
end Go.Ds
namespace Go.Ds
section
variable {α : Type}
theorem uI (f k : Nat) : a4R (f + 1) (k + 1) = if k % 2 = 0 then .l (a4R f (k / 2)) else .r (a4R f (k / 2)) := by
 show Bool.rec (motive := fun _ => Pth) (.r (a4R f (k / 2))) (.l (a4R f (k / 2))) (Nat.beq (k % 2) 0) = _
 by_cases h : k % 2 = 0
 ·rw [if_pos h, h]; rfl
 ·rw [if_neg h]
  have : Nat.beq (k % 2) 0 = false := fQ.2 fun e => h (dQ e)
  rw [this]
theorem a3U (f : Nat) : a4R f 0 = .z := by cases f <;> rfl
theorem a2m : ∀ (f g a b : Nat), a ≤ f → b ≤ g → a4R f a = a4R g b → a = b
 | _, _, 0, 0, _, _, _ => rfl
 | 0, _, a + 1, _, h, _, _ => by omega
 | _, 0, _, b + 1, _, h, _ => by omega
 | f, g + 1, 0, b + 1, _, _, h => by
   rw [a3U, uI] at h
   split at h <;> cases h
 | f + 1, g, a + 1, 0, _, _, h => by
   rw [a3U, uI] at h
   split at h <;> cases h
 | f + 1, g + 1, a + 1, b + 1, ha, hb, h => by
   rw [uI, uI] at h
   by_cases h1 : a % 2 = 0
   ·rw [if_pos h1] at h
    by_cases h2 : b % 2 = 0
    ·rw [if_pos h2] at h
     injection h with h
     have := a2m f g (a / 2) (b / 2) (by omega) (by omega) h
     omega
    ·rw [if_neg h2] at h; cases h
   ·rw [if_neg h1] at h
    by_cases h2 : b % 2 = 0
    ·rw [if_pos h2] at h; cases h
    ·rw [if_neg h2] at h
     injection h with h
     have := a2m f g (a / 2) (b / 2) (by omega) (by omega) h
     omega
theorem a9W {a b : Nat} (h : kQ a = kQ b) : a = b := a2m _ _ _ _ (di _) (di _) h
theorem lK (p : Pth) (K : Pth → α) : lO p K = K p := by
 induction p generalizing K with
 | z => rfl
 | l p ih => exact ih _
 | r p ih => exact ih _
theorem mP (v : Value) (K : Value → α) : oG v K = K v := by cases v <;> rfl
theorem rY (v : Value) (p : Pth) (f : Fr) (K : Fr → α) : pP v p f K = K (pP v p f fun f => f) := by
 induction p generalizing f α with
 | z => cases f <;> rfl
 | l p ih =>
   cases f with
   | e =>
     show pP v p .e (fun l => K (.n undef l .e)) = K (pP v p .e fun l => .n undef l .e)
     rw [ih, ih (K := fun l => Fr.n undef l .e)]
   | n w l r =>
     show pP v p l (fun l => K (.n w l r)) = K (pP v p l fun l => .n w l r)
     rw [ih, ih (K := fun l => Fr.n w l r)]
 | r p ih =>
   cases f with
   | e =>
     show pP v p .e (fun l => K (.n undef .e l)) = K (pP v p .e fun l => .n undef .e l)
     rw [ih, ih (K := fun l => Fr.n undef .e l)]
   | n w l r =>
     show pP v p r (fun r => K (.n w l r)) = K (pP v p r fun r => .n w l r)
     rw [ih, ih (K := fun r => Fr.n w l r)]
theorem tQ (p : Pth) : nQ p .e = undef := by
 cases p <;> rfl
theorem b2C (v : Value) (p q : Pth) (f : Fr) : (q = p → nQ q (pP v p f fun f => f) = v) ∧ (q ≠ p → nQ q (pP v p f fun f => f) = nQ q f) := by
 induction p generalizing f q with
 | z =>
   refine ⟨fun h => ?_, fun h => ?_⟩
   ·subst h; cases f <;> rfl
   ·cases q with
    | z => exact absurd rfl h
    | l q =>
      cases f with
      | e => show nQ q .e = undef; exact tQ q
      | n => rfl
    | r q =>
      cases f with
      | e => show nQ q .e = undef; exact tQ q
      | n => rfl
 | l p ih =>
   have h1 : ∀ f, pP v (.l p) f (fun f => f) = match f with | .e => .n undef (pP v p .e fun f => f) .e | .n w l r => .n w (pP v p l fun f => f) r := fun f => by
    cases f with
    | e => exact rY v p .e fun l => Fr.n undef l .e
    | n w l r => exact rY v p l fun l => Fr.n w l r
   rw [h1]
   cases q with
   | z => exact ⟨fun h => (nomatch h), fun _ => by cases f <;> rfl⟩
   | r q =>
     refine ⟨fun h => (nomatch h), fun _ => ?_⟩
     cases f with
     | e => show nQ q .e = undef; exact tQ q
     | n => rfl
   | l q =>
     refine ⟨fun h => ?_, fun h => ?_⟩
     ·injection h with h
      cases f with
      | e => exact (ih q .e).1 h
      | n w l r => exact (ih q l).1 h
     ·have h : q ≠ p := fun e => h (by rw [e])
      cases f with
      | e => show nQ q (pP v p .e fun f => f) = undef; rw [(ih q .e).2 h, tQ]
      | n w l r => exact (ih q l).2 h
 | r p ih =>
   have h1 : ∀ f, pP v (.r p) f (fun f => f) = match f with | .e => .n undef .e (pP v p .e fun f => f) | .n w l r => .n w l (pP v p r fun f => f) := fun f => by
    cases f with
    | e => exact rY v p .e fun l => Fr.n undef .e l
    | n w l r => exact rY v p r fun r => Fr.n w l r
   rw [h1]
   cases q with
   | z => exact ⟨fun h => (nomatch h), fun _ => by cases f <;> rfl⟩
   | l q =>
     refine ⟨fun h => (nomatch h), fun _ => ?_⟩
     cases f with
     | e => show nQ q .e = undef; exact tQ q
     | n => rfl
   | r q =>
     refine ⟨fun h => ?_, fun h => ?_⟩
     ·injection h with h
      cases f with
      | e => exact (ih q .e).1 h
      | n w l r => exact (ih q r).1 h
     ·have h : q ≠ p := fun e => h (by rw [e])
      cases f with
      | e => show nQ q (pP v p .e fun f => f) = undef; rw [(ih q .e).2 h, tQ]
      | n w l r => exact (ih q r).2 h
def FAg (f : Fr) (l : List Value) : Prop := ∀ t, nQ (kQ t) f = get l t
def FRel (k : Nat) (f : Fr) (l : List Value) : Prop := l.length = k ∧ FAg f l
noncomputable def b4o (f : Fr) (t : Tmp) (v : Value) : Fr := pP v (kQ t) f fun f => f
theorem a3N (f : Fr) (t u : Tmp) (v : Value) : nQ (kQ u) (b4o f t v) = if u = t then v else nQ (kQ u) f := by
 have h := b2C v (kQ t) (kQ u) f
 by_cases he : u = t
 ·rw [if_pos he]; exact h.1 (by rw [he])
 ·rw [if_neg he]; exact h.2 (fun e => he (a9W e))
theorem FRel.put {k : Nat} {f : Fr} {l : List Value} (h : FRel k f l) {t : Tmp} (ht : t < k) (v : Value) : FRel k (b4o f t v) (Go.Ds.put l (some t) v) := by
 refine ⟨by simp [Go.Ds.put, kI, h.1], fun u => ?_⟩
 rw [a3N, b0v]
 by_cases he : u = t
 ·subst he; rw [if_pos rfl, if_pos ⟨rfl, by rw [h.1]; exact ht⟩]
 ·rw [if_neg he, if_neg (fun hh => he (cX hh.1).symm)]; exact h.2 u
theorem FRel.set {k : Nat} {f : Fr} {l : List Value} (h : FRel k f l) {t : Tmp} (ht : t < k) (v : Value) : FRel k (b4o f t v) (l.set t v) := by
 have := h.put ht v
 simpa [Go.Ds.put, kI] using this
def Rs.Is (r : Rs) (v : Value) (H : Heap) : Prop := r = .ok v H ∨ r = .th v H
theorem Rs.ar {v : Value} {H : Heap} : ¬ Rs.no.Is v H := by rintro (h | h) <;> cases h
theorem Rs.aN {v w : Value} {H H1 : Heap} (h : (Rs.ok v H).Is w H1) : w = v ∧ H1 = H := by
 rcases h with h | h
 ·injection h with a b; exact ⟨a.symm, b.symm⟩
 ·cases h
theorem Rs.aR {v w : Value} {H H1 : Heap} (h : (Rs.th v H).Is w H1) : w = v ∧ H1 = H := by
 rcases h with h | h
 ·cases h
 ·injection h with a b; exact ⟨a.symm, b.symm⟩
theorem kG (b : Bool) (no x : α) : nN b no x = if b = true then x else no := by cases b <;> rfl
theorem lC {b : Bool} {x : Rs} {v : Value} {H : Heap} (h : (nN b Rs.no x).Is v H) : b = true ∧ x.Is v H := by
 cases b with
 | false => exact absurd h Rs.ar
 | true => exact ⟨rfl, h⟩
theorem xX {β : Type} : ∀ (cs : List β) (e : Nat), a7y cs e = decide (e ≤ cs.length)
 | [], 0 => rfl
 | [], e + 1 => by simp; rfl
 | _ :: _, 0 => rfl
 | _ :: cs, e + 1 => by show a7y cs e = _; rw [xX cs e]; simp
theorem xJ {β : Type} : ∀ (cs : List β) (e : Nat), a3d cs e = decide (e = cs.length)
 | [], 0 => rfl
 | [], e + 1 => by simp; rfl
 | _ :: _, 0 => by simp; rfl
 | _ :: cs, e + 1 => by show a3d cs e = _; rw [xJ cs e]; simp
theorem xV {β : Type} : ∀ (cs : List β) (e : Nat), a0F cs e = cs[e]?
 | [], _ => rfl
 | _ :: _, 0 => rfl
 | _ :: cs, e + 1 => by show a0F cs e = _; rw [xV cs e]; simp
theorem a6f {β : Type} : ∀ (cs : List β) (e : Nat), b0r cs e = cs.drop e
 | [], e => by cases e <;> rfl
 | _ :: _, 0 => rfl
 | _ :: cs, e + 1 => by show b0r cs e = _; rw [a6f cs e]; rfl
theorem a6m {β : Type} : ∀ {cs : List β} {n : Nat} {K : List β → Rs} {v : Value} {H : Heap}, (a1r cs n K).Is v H → n ≤ cs.length ∧ (K (cs.take n)).Is v H
 | [], 0, K, v, H, h => ⟨di _, h⟩
 | [], n + 1, K, v, H, h => absurd h Rs.ar
 | _ :: _, 0, K, v, H, h => ⟨eO _, h⟩
 | c :: cs, n + 1, K, v, H, h => by
   have h' : (a1r cs n fun l => K (c :: l)).Is v H := h
   obtain ⟨h1, h2⟩ := a6m h'
   exact ⟨by simp; omega, h2⟩
theorem b8v {a b : IntKind} (h : Nat.beq (kIx a) (kIx b) = true) : a = b := by
 cases a <;> cases b <;> first | rfl | (exact absurd h (by decide))
theorem b5Z (k : Nat) (K : List Pth → α) : b3Q k K = K ((List.range k).map kQ).reverse := by
 induction k generalizing K with
 | zero => rfl
 | succ n ih =>
   show lO (kQ n) (fun p => b3Q n fun l => K (p :: l)) = _
   rw [lK, ih, eW]
   simp
theorem b8q {β : Type} (l : List β) : ∀ (a : List β) (K : List β → α), c0p l a K = K (l.reverse ++ a) := by
 induction l with
 | nil => intro a K; rfl
 | cons x l ih => intro a K; show c0p l (x :: a) K = _; rw [ih]; simp
theorem a9M (k : Nat) (K : List Pth → α) : b2O k K = K ((List.range k).map kQ) := by
 unfold b2O; rw [b5Z, b8q]; simp
theorem oR (n : Nat) (d : α) (K : Nat → α) : a2C (some n) d K = K n := jS n K
def LK (H H' : Heap) : Prop := H.length ≤ H'.length ∧ ∀ A r', A < H.length → iL H' A = some (.loop r') →
 ∃ r, iL H A = some (.loop r) ∧ r'.assign = r.assign ∧ r'.body = r.body ∧ r'.params = r.params ∧ r'.tmps = r.tmps
theorem LK.refl (H : Heap) : LK H H := ⟨di _, fun _ r _ h => ⟨r, h, rfl, rfl, rfl, rfl⟩⟩
theorem LK.trans {H H1 H2 : Heap} (h : LK H H1) (k : LK H1 H2) : LK H H2 := ⟨dE h.1 k.1, fun A r' hA hr => by
 obtain ⟨r1, h1, a1, b1, c1, d1⟩ := k.2 A r' (dM hA h.1) hr
 obtain ⟨r, h2, a2, b2, c2, d2⟩ := h.2 A r1 hA h1
 exact ⟨r, h2, a1.trans a2, b1.trans b2, c1.trans c2, d1.trans d2⟩⟩
def Blk.cd : Blk → Bool
 | .loop _ => true
 | _ => false
theorem LK.hset (H : Heap) (A : Nat) {b : Blk} (hb : b.cd = false) : LK H (hset H A b) := by
 refine ⟨by rw [iY]; exact di _, fun B r' hB h => ?_⟩
 by_cases he : A = B
 ·subst he; rw [iP _ hB] at h; injection h with h; subst h; cases hb
 ·rw [iI _ he] at h; exact ⟨r', h, rfl, rfl, rfl, rfl⟩
theorem LK.cons (H : Heap) (b : Blk) : LK H (H.cons b) := by
 refine ⟨by rw [length_cons]; omega, fun B r' hB h => ?_⟩
 rw [jN b hB] at h; exact ⟨r', h, rfl, rfl, rfl, rfl⟩
theorem LK.row (H : Heap) (ty : TypeId) (cs : List Value) : LK H (rF H ty cs) := by rw [lH]; exact .cons _ _
theorem LK.loop {H : Heap} {L : Nat} {r r' : Loop} (h : iL H L = some (.loop r)) (e : r'.assign = r.assign ∧ r'.body = r.body ∧ r'.params = r.params ∧ r'.tmps = r.tmps) : LK H (Go.Ds.hset H L (.loop r')) := by
 refine ⟨by rw [iY]; exact di _, fun B r2 hB hg => ?_⟩
 by_cases he : L = B
 ·subst he; rw [iP _ hB] at hg; injection hg with hg; injection hg with hg; subst hg; exact ⟨r, h, e⟩
 ·rw [iI _ he] at hg; exact ⟨r2, hg, rfl, rfl, rfl, rfl⟩
variable {P : Program}
theorem a7d {H H' : Heap} {t : TypeId} {p v : Value} (h : qH P H t p v = some H') : LK H H' := by
 unfold qH at h
 split at h
 ·split at h
  ·dsimp only at h
   split at h
   ·injection h with h; subst h; exact .hset _ _ rfl
   ·cases h
  ·cases h
 ·cases h
theorem a3l {H H' : Heap} {t : TypeId} {v r : Value} (h : wB P H t v = some (r, H')) : LK H H' := by
 unfold wB at h
 dsimp only at h
 split at h
 ·injection h with h; injection h with _ h; subst h; exact .row _ _ _
 ·cases h
theorem a4V {H H' : Heap} {t : TypeId} {s x r : Value} (h : nF P H t s x = some (r, H')) : LK H H' := by
 unfold nF at h
 simp only [cZ] at h
 obtain ⟨elem, _, size, _, bytes, _, z, _, ⟨n, l⟩, _, h⟩ := h
 try dsimp only at h
 split at h
 ·split at h
  ·split at h
   ·injection h with h; injection h with _ h; subst h; exact .refl _
   ·injection h with h; injection h with _ h; subst h; exact .row _ _ _
  ·cases h
 ·split at h
  ·split at h
   ·injection h with h; injection h with _ h; subst h; exact .hset _ _ rfl
   ·split at h
    ·injection h with h; injection h with _ h; subst h; exact .hset _ _ rfl
    ·cases h
  ·cases h
 ·cases h
theorem a5v {H H' : Heap} {t : TypeId} {v r : Value} (h : qS P H t v = some (r, H')) : LK H H' := by
 unfold qS at h
 split at h
 ·dsimp only at h
  rename_i n elem _
  have key : ∀ (b : Bool), (if b = true then some (Value.pointer (some ⟨H.length, 0, some v.cells.toList.length⟩), b5m H elem v.cells.toList) else none) = some (r, H') → LK H H' := by
   intro b h
   cases b
   ·cases h
   ·injection h with h; injection h with _ h; subst h; rw [a0V]; exact .cons _ _
  exact key _ h
 ·exact a3l h
theorem a4y {H H' : Heap} {t : TypeId} {x y r : Value} (h : uH P H t x y = some (r, H')) : LK H H' := by
 unfold uH at h
 split at h
 ·split at h
  ·split at h
   ·simp only [dj] at h
    obtain ⟨_, _, h⟩ := h
    injection h with _ h; subst h; exact .hset _ _ rfl
   ·cases h
  ·cases h
 ·cases h
theorem a4G {H H' : Heap} {k : FuncId} {args : List Value} {r : Value} (h : pV P k args H = some (r, H')) : LK H H' := by
 unfold pV at h
 simp only [cZ] at h
 obtain ⟨fn, _, h⟩ := h
 split at h
 case isFalse => cases h
 split at h
 ·split at h
  ·injection h with h; injection h with _ h; subst h; exact .refl _
  ·cases h
 split at h
 ·split at h
  ·split at h
   ·simp only [cZ] at h
    obtain ⟨_, _, h⟩ := h
    split at h
    ·injection h with h; injection h with _ h; subst h; exact .row _ _ _
    ·cases h
   ·cases h
  ·cases h
 split at h
 ·split at h
  ·split at h
   ·split at h
    ·injection h with h; injection h with _ h; subst h; exact .refl _
    ·cases h
   ·cases h
  ·cases h
 ·cases h
theorem a7T {H H' : Heap} {t : TypeId} {s x r : Value} (h : a0X P H t s x = some (r, H')) : LK H H' := by
 unfold a0X at h
 simp only [cZ] at h
 obtain ⟨elem, _, size, _, m, _, h⟩ := h
 try dsimp only at h
 split at h
 ·split at h
  ·injection h with h; injection h with _ h; subst h; exact .refl _
  ·cases h
 ·split at h
  ·injection h with h; injection h with _ h; subst h; exact .refl _
  ·simp only [cZ] at h
   obtain ⟨l, _, h⟩ := h
   split at h
   ·split at h
    ·injection h with h; injection h with _ h; subst h; exact .hset _ _ rfl
    ·cases h
   ·cases h
 ·cases h
theorem a5T {H H' : Heap} {t : TypeId} {x r : Value} (h : sI P H t x = some (r, H')) : LK H H' := by
 unfold sI at h
 simp only [cZ] at h
 obtain ⟨elem, _, z, _, h⟩ := h
 split at h
 ·injection h with h; injection h with _ h; subst h; exact .refl _
 ·split at h
  ·injection h with h; injection h with _ h; subst h; exact .refl _
  ·try dsimp only at h
   split at h
   ·split at h
    ·injection h with h; injection h with _ h; subst h; exact .hset _ _ rfl
    ·cases h
   ·cases h
 ·cases h
theorem b1q {H H' : Heap} {t : TypeId} {m k v : Value} (h : a0I P H t m k v = some H') : LK H H' := by
 unfold a0I at h
 simp only [cZ] at h
 obtain ⟨⟨kt, et⟩, _, h⟩ := h
 dsimp only at h
 split at h
 ·split at h
  ·split at h
   ·simp only [cZ] at h
    obtain ⟨r, _, h⟩ := h
    split at h
    ·simp only [cZ] at h
     obtain ⟨e, _, h⟩ := h
     split at h
     ·injection h with h; subst h; exact .hset _ _ rfl
     ·cases h
    ·injection h with h; subst h; exact .hset _ _ rfl
   ·cases h
  ·cases h
 ·cases h
theorem a5n {H H' : Heap} {t : TypeId} {m k r : Value} (h : qK P H t m k = some (r, H')) : LK H H' := by
 unfold qK at h
 simp only [cZ] at h
 obtain ⟨⟨kt, et⟩, _, h⟩ := h
 dsimp only at h
 split at h
 ·split at h
  ·split at h
   ·simp only [cZ] at h
    obtain ⟨r, _, h⟩ := h
    split at h
    ·simp only [cZ] at h
     obtain ⟨e, _, h⟩ := h
     split at h
     ·injection h with h; injection h with _ h; subst h; exact .hset _ _ rfl
     ·cases h
    ·simp only [cZ] at h
     obtain ⟨z, _, h⟩ := h
     split at h
     ·injection h with h; injection h with _ h; subst h; exact .hset _ _ rfl
     ·cases h
   ·cases h
  ·cases h
 ·cases h
theorem a7w {H H' : Heap} {m b v : Value} (h : qL H m b v = some H') : LK H H' := by
 unfold qL at h
 split at h
 ·split at h
  ·split at h
   ·simp only [cZ] at h
    obtain ⟨e, _, h⟩ := h
    injection h with h; subst h; exact .hset _ _ rfl
   ·cases h
  ·cases h
 ·cases h
theorem a2Q {H H' : Heap} {t : TypeId} {o : Option Value} {r : Value} (h : pN P H t o = some (r, H')) : LK H H' := by
 unfold pN at h
 simp only [cZ] at h
 obtain ⟨_, _, h⟩ := h
 split at h
 ·injection h with h; injection h with _ h; subst h; exact .cons _ _
 ·injection h with h; injection h with _ h; subst h; exact .cons _ _
 ·cases h
theorem a5G {H H' : Heap} {o : Oper} {l : List Value} {r : Value} (h : kK P o l H = some (r, H')) : H' = H := by
 unfold kK at h
 split at h
 ·split at h
  ·split at h
   ·injection h with h; injection h with _ h; exact h.symm
   ·cases h
  ·cases h
 ·cases h
theorem uO {H H' : Heap} {v r : Value} (h : some (v, H) = some (r, H')) : LK H H' := by injection h with h; injection h with _ h; subst h; exact .refl _
theorem uF {H H' : Heap} {v : Option Value} {r : Value} (h : v.map (fun v => (v, H)) = some (r, H')) : LK H H' := by
 cases v with
 | none => cases h
 | some v => exact uO h
set_option maxHeartbeats 1000000 in
theorem b4X {H H' : Heap} {o : Oper} {l : List Value} {r : Value} (h : opD P o l H = some (r, H')) : LK H H' := by
 obtain ⟨dst, op, type, pos, after, guard⟩ := o
 have pl : ∀ {o : Oper}, kK P o l H = some (r, H') → LK H H' := fun h => by rw [a5G h]; exact .refl _
 cases op with
 | alloc t =>
   simp only [opD, cZ] at h
   obtain ⟨z, _, h⟩ := h
   split at h
   ·exact a5v h
   ·cases h
 | box t x => simp only [opD] at h; exact a3l h
 | store t x y =>
   simp only [opD, dj] at h
   obtain ⟨H1, h, e⟩ := h
   injection e with _ e; subst e
   exact a7d h
 | mapUpdate t m x y =>
   simp only [opD, dj] at h
   obtain ⟨H1, h, e⟩ := h
   injection e with _ e; subst e
   exact b1q h
 | mapEntry t m x => simp only [opD] at h; exact a5n h
 | entryStore t m x y =>
   simp only [opD, dj] at h
   obtain ⟨H1, h, e⟩ := h
   injection e with _ e; subst e
   exact a7w h
 | makeMap t x => simp only [opD] at h; exact a2Q h
 | buildSlice t len parts =>
   simp only [opD, cZ] at h
   obtain ⟨elem, _, size, _, z, _, h⟩ := h
   split at h
   ·injection h with h; injection h with _ h; subst h; exact .row _ _ _
   split at h
   ·simp only [dj] at h
    obtain ⟨cs, _, e⟩ := h
    injection e with _ e; subst e
    exact .row _ _ _
   ·cases h
 | makeSlice t n c =>
   simp only [opD, cZ] at h
   obtain ⟨elem, _, size, _, bytes, _, z, _, h⟩ := h
   split at h
   ·split at h
    ·injection h with h; injection h with _ h; subst h; exact .row _ _ _
    ·cases h
   ·cases h
 | call c =>
   simp only [opD] at h
   split at h
   ·split at h
    ·split at h
     all_goals first | exact uF h | cases h
    ·cases h
   ·split at h
    ·exact a4V h
    ·cases h
   ·split at h
    ·exact a7T h
    ·cases h
   ·split at h
    ·exact a5T h
    ·cases h
   ·exact pl h
   ·split at h
    ·split at h
     ·split at h
      ·cases h
      ·exact uO h
     ·cases h
    ·cases h
   ·split at h
    ·exact a4y h
    ·cases h
   ·exact pl h
   ·exact pl h
   ·cases h
 | convert s t x =>
   simp only [opD] at h
   split at h
   ·exact pl h
   ·split at h
    ·split at h
     ·exact uF h
     ·cases h
    ·split at h
     ·simp only [cZ] at h
      obtain ⟨_, _, h⟩ := h
      injection h with h; injection h with _ h; subst h
      rw [b0B]; exact .cons _ _
     ·cases h
    ·split at h
     ·exact uO h
     ·cases h
    ·cases h
 | slice t x lo hi mx =>
   cases mx with
   | some _ => simp only [opD] at h; cases h
   | none =>
     simp only [opD] at h
     split at h
     ·exact pl h
     ·split at h
      ·exact uF h
      ·exact uF h
 | _ =>
   simp only [opD] at h
   repeat' first
    | exact LK.refl _
    | exact uO h
    | exact uF h
    | exact pl h
    | (cases h; done)
    | split at h
    | (simp only [cZ, dj] at h; obtain ⟨_, _, h⟩ := h)
    | (obtain ⟨_, _, h⟩ := h)
    | (injection h with h; injection h with _ h; subst h; exact LK.refl _)
    | (injection h with _ h; subst h; exact LK.refl _)
    | (cases h; exact LK.refl _)
end
end Go.Ds
namespace Go.Ds
variable {P : Program}
structure CallsOk (P : Program) (C : Calls') (H0 : Heap) : Prop where
 fn : ∀ p f args H v H1, LK H0 H → (C.fn p f args H).Is v H1 → p = kQ f → (FnS P f args H (fun v' H' => v' = v ∧ H' = H1) ∨ pV P f args H = some (v, H1)) ∧ LK H H1
 rd : ∀ L args H v H1, LK H0 H → (C.rd L args H).Is v H1 → xW P L args H v H1 ∧ LK H H1
noncomputable def iV (x : Operand) : LArg := match x with
 | .tmp t => .t (kQ t)
 | .const v => .c v
 | .global g => .c (.pointer (some ⟨g, 0, none⟩))
 | .func k => .c (.func (.func k) #[] #[])
theorem kY {α : Type} (x : Operand) (K : LArg → α) : lP x K = K (iV x) := by
 cases x with
 | tmp t => exact lK _ _
 | _ => rfl
theorem jO {f : Fr} {l : List Value} (h : FAg f l) (x : Operand) : mK f (iV x) = ev l x := by
 cases x with
 | tmp t => exact h t
 | _ => rfl
theorem a3H {α : Type} (l : List Operand) (K : List LArg → α) : a4o l K = K (l.map iV) := by
 induction l generalizing K with
 | nil => rfl
 | cons x l ih =>
   show lP x (fun x => a4o l fun l => K (x :: l)) = _
   rw [kY, ih]; rfl
theorem a5h {α : Type} {f : Fr} {l : List Value} (h : FAg f l) (xs : List Operand) (K : List Value → α) : a3s f (xs.map iV) K = K (xs.map (ev l)) := by
 induction xs generalizing K with
 | nil => rfl
 | cons x xs ih =>
   show oG (mK f (iV x)) (fun v => a3s f (xs.map iV) fun l => K (v :: l)) = _
   rw [mP, ih, jO h]; rfl
theorem c1p {f : Fr} {l : List Value} (h : FAg f l) : evF f = ev l := by
 funext x
 cases x with
 | tmp t => exact h t
 | _ => rfl
def vB (P : Program) (o : Oper) (lo : LOp) : Prop := ∀ C H0 f l H v H1, CallsOk P C H0 → LK H0 H → FAg f l → (opF P C lo f H).Is v H1 → StepR P o l H v H1 ∧ LK H H1
def LowPl (P : Program) (o : Oper) (lo : LOp) : Prop := ∀ C f l H v H1, FAg f l → (opF P C lo f H).Is v H1 → opD P o l H = some (v, H1)
theorem LowPl.low {o : Oper} {lo : LOp} (hok : o.op.operands.toList.all iR = true) (h : LowPl P o lo) : vB P o lo :=
 fun C _ f l H v H1 _ _ hf hr => by have := h C f l H v H1 hf hr; exact ⟨.op hok this, b4X this⟩
theorem b6p (o : Oper) : vB P o .bad := fun _ _ _ _ _ _ _ _ _ _ h => absurd h Rs.ar
theorem b7S (o : Oper) : LowPl P o (.gen o) := fun C f l H v H1 hf hr => by
 have hr : (match b9X P o (evF f) H with | some (v, H1) => Rs.th v H1 | none => .no).Is v H1 := hr
 rw [c1p hf] at hr
 have e : b9X P o (ev l) H = opD P o l H := rfl
 rw [e] at hr
 split at hr
 ·rename_i v2 H2 h2
  obtain ⟨rfl, rfl⟩ := Rs.aR hr
  exact h2
 ·exact absurd hr Rs.ar
section
variable {dst : Option Tmp} {type : TypeId} {pos : String} {after : Array Edge} {guard : Option (Nat × Bool)}
theorem b9N (x : Operand) : LowPl P ⟨dst, .move x, type, pos, after, guard⟩ (.mv (iV x)) := fun C f l H v H1 hf hr => by
 have hr : (oG (mK f (iV x)) fun v => Rs.ok v H).Is v H1 := hr
 rw [mP, jO hf] at hr
 obtain ⟨rfl, rfl⟩ := Rs.aN hr
 rfl
theorem c1k (x : Operand) : LowPl P ⟨dst, .assign x, type, pos, after, guard⟩ (.mv (iV x)) := fun C f l H v H1 hf hr => by
 have hr : (oG (mK f (iV x)) fun v => Rs.ok v H).Is v H1 := hr
 rw [mP, jO hf] at hr
 obtain ⟨rfl, rfl⟩ := Rs.aN hr
 rfl
theorem b4Z (c a b : Operand) : LowPl P ⟨dst, .pick c a b, type, pos, after, guard⟩ (.pick (iV c) (iV a) (iV b)) := fun C f l H v H1 hf hr => by
 have hr : (b4D (iV c) (iV a) (iV b) f H).Is v H1 := hr
 unfold b4D at hr
 rw [jO hf] at hr
 split at hr
 ·rename_i t ht
  rw [mP] at hr
  simp only [opD, ht]
  cases t
  ·have hr : (Rs.ok (mK f (iV b)) H).Is v H1 := hr
   rw [jO hf] at hr
   obtain ⟨rfl, rfl⟩ := Rs.aN hr; rfl
  ·have hr : (Rs.ok (mK f (iV a)) H).Is v H1 := hr
   rw [jO hf] at hr
   obtain ⟨rfl, rfl⟩ := Rs.aN hr; rfl
 ·exact absurd hr Rs.ar
theorem b7G (a b : Int) : c2H a b = a * b := by cases a <;> cases b <;> rfl
theorem a4f (a b : Int) : c3H a b = a.tdiv b := by cases a <;> cases b <;> rfl
theorem a4b (a b : Int) : c1X a b = a.tmod b := by cases a <;> cases b <;> rfl
theorem b7Q {op : BinOp} {g : IntKind → Int → Int → Option Value} (h : b8c op = some g) (k : IntKind) (a b : Int) : mL op k a b = g k a b := by
 cases op <;> simp only [b8c] at h <;> first | (cases h; done) | (injection h with h; subst h)
 all_goals first
  | rfl
  | (simp only [mL, c1N, b7G]; done)
  | (simp only [mL, b7h, a4f]; done)
  | (simp only [mL, b8d, a4b]; done)
  | (simp only [mL, b7h, a4f]; rfl)
  | (simp only [mL, b8d, a4b]; rfl)
  | (simp only [mL, b7h, a4f]; cases eqI b 0 <;> rfl)
  | (simp only [mL, b8d, a4b]; cases eqI b 0 <;> rfl)
theorem c1U {o : Option Value} {H H1 : Heap} {v : Value} (h : (oV o H).Is v H1) : o = some v ∧ H1 = H := by
 cases o with
 | none => exact absurd h Rs.ar
 | some w => obtain ⟨rfl, rfl⟩ := Rs.aR h; exact ⟨rfl, rfl⟩
theorem b3q {o : Option Value} {H H1 : Heap} {v : Value} (h : (okV o H).Is v H1) : o = some v ∧ H1 = H := by
 cases o with
 | none => exact absurd h Rs.ar
 | some w =>
   have h : (oG w fun v => Rs.ok v H).Is v H1 := h
   rw [mP] at h
   obtain ⟨rfl, rfl⟩ := Rs.aN h; exact ⟨rfl, rfl⟩
theorem b8r {op : BinOp} {g : IntKind → Int → Int → Option Value} (hg : b8c op = some g) (t yt : TypeId) (x y : Operand) : LowPl P ⟨dst, .binOp op t x y yt, type, pos, after, guard⟩ (.bin g (iV x) (iV y)) := fun C f l H v H1 hf hr => by
 have hr : (c1m g (iV x) (iV y) f H).Is v H1 := hr
 unfold c1m at hr
 rw [jO hf] at hr
 split at hr
 ·rename_i k a hx
  unfold b9v at hr
  rw [jO hf] at hr
  split at hr
  ·rename_i k' b hy
   obtain ⟨hk, hq⟩ := lC hr
   obtain rfl := b8v hk
   obtain ⟨hv, rfl⟩ := c1U hq
   rw [← b7Q hg] at hv
   have : opD P ⟨dst, .binOp op t x y yt, type, pos, after, guard ⟩ l H1 = if k = k then (match mL op k a b with | some v => some (v, H1) | none => kK P ⟨dst, .binOp op t x y yt, type, pos, after, guard ⟩ l H1) else kK P ⟨dst, .binOp op t x y yt, type, pos, after, guard ⟩ l H1 := by
    simp only [opD, hx, hy]
    cases op <;> rfl
   rw [this, if_pos rfl, hv]
  ·exact absurd hr Rs.ar
 ·exact absurd hr Rs.ar
theorem b7u {b : Option Blk} {i e : Nat} {H H1 : Heap} {v : Value} (h : (b7Z b i e H).Is v H1) : H1 = H ∧ ∃ cs ty rw lo ver, b = some (.cells cs ty rw lo ver) ∧ lo ≤ e ∧ e ≤ cs.length ∧ i + 1 ≤ e ∧ cs[i]? = some v := by
 unfold b7Z at h
 split at h
 ·rename_i cs ty rw lo ver
  obtain ⟨h1, h⟩ := lC h
  obtain ⟨h2, h⟩ := lC h
  obtain ⟨h3, h⟩ := lC h
  have h : (okV (a0F cs i) H).Is v H1 := h
  obtain ⟨h4, h5⟩ := b3q h
  rw [xX] at h2
  rw [xV] at h4
  exact ⟨h5, cs, ty, rw, lo, ver, rfl, eo h1, by simpa using h2, eo h3, h4⟩
 ·exact absurd h Rs.ar
theorem b6X {b : Option Blk} {n i e : Nat} {H H1 : Heap} {v : Value} (h : (b8k b n i e H).Is v H1) : H1 = H ∧ ∃ cs ty rw lo ver, b = some (.cells cs ty rw lo ver) ∧ lo ≤ e ∧ e ≤ cs.length ∧ i + n ≤ e ∧ v = .agg ((cs.drop i).take n).toArray := by
 unfold b8k at h
 split at h
 ·rename_i cs ty rw lo ver
  obtain ⟨h1, h⟩ := lC h
  obtain ⟨h2, h⟩ := lC h
  obtain ⟨h3, h⟩ := lC h
  obtain ⟨h4, h⟩ := a6m h
  obtain ⟨rfl, rfl⟩ := Rs.aN h
  rw [xX] at h2
  exact ⟨rfl, cs, ty, rw, lo, ver, rfl, eo h1, by simpa using h2, eo h3, by rw [a6f]⟩
 ·exact absurd h Rs.ar
theorem a9Y {X : LArg} {f : Fr} {H H1 : Heap} {v w : Value} {t : TypeId} (ht : jL P t = some false) (hw : mK f X = w) (h : (b2z X f H).Is v H1) : H1 = H ∧ lE P H t w = some v := by
 unfold b2z at h
 rw [hw] at h
 split at h
 ·rename_i A i e
  obtain ⟨h1, cs, ty, rw', lo, ver, h2, h3, h4, h5, h6⟩ := b7u h
  refine ⟨h1, ?_⟩
  simp only [lE, ht, jD, h2]
  rw [if_pos (by simp; omega)]
  simp [h6]
 ·rename_i A i
  unfold c0X at h
  split at h
  ·rename_i cs ty lo hg
   obtain ⟨h1, h⟩ := lC h
   rw [xX] at h1
   have h1 : lo ≤ cs.length := by simpa using h1
   cases hn : a0F cs i with
   | none => rw [hn] at h; exact absurd h Rs.ar
   | some c =>
     rw [hn] at h
     have h : (oG c fun v => Rs.ok v H).Is v H1 := h
     rw [mP] at h
     obtain ⟨rfl, rfl⟩ := Rs.aN h
     rw [xV] at hn
     have hi := (dq.1 hn).1
     refine ⟨rfl, ?_⟩
     simp only [lE, ht, jD, hg]
     rw [if_pos (by simp; omega)]
     simp [hn]
  ·exact absurd h Rs.ar
 ·exact absurd h Rs.ar
theorem b0y {X : LArg} {f : Fr} {H H1 : Heap} {v w : Value} {t : TypeId} {n : Nat} (ht : jL P t = some true) (hn : iC P t = some n) (hw : mK f X = w) (h : (b2m n X f H).Is v H1) : H1 = H ∧ lE P H t w = some v := by
 unfold b2m at h
 rw [hw] at h
 split at h
 ·rename_i A i e
  obtain ⟨h1, cs, ty, rw', lo, ver, h2, h3, h4, h5, h6⟩ := b6X h
  refine ⟨h1, ?_⟩
  simp only [lE, ht, hn, cY, jD, h2]
  rw [if_pos (by simp; omega), h6]
  rfl
 ·exact absurd h Rs.ar
theorem b7w {t : TypeId} (ht : jL P t = some false) (x : Operand) : LowPl P ⟨dst, .load t x, type, pos, after, guard⟩ (.ld1 (iV x)) := fun C f l H v H1 hf hr => by
 obtain ⟨rfl, h⟩ := a9Y (P := P) ht (jO hf x) hr
 simp only [opD, h, dN]
theorem b7f {t : TypeId} {n : Nat} (ht : jL P t = some true) (hn : iC P t = some n) (x : Operand) : LowPl P ⟨dst, .load t x, type, pos, after, guard⟩ (.ldn n (iV x)) := fun C f l H v H1 hf hr => by
 obtain ⟨rfl, h⟩ := b0y (P := P) ht hn (jO hf x) hr
 simp only [opD, h, dN]
theorem b9M {t : TypeId} {n : Nat} (hn : iC P t = some n) (x y : Operand) : LowPl P ⟨dst, .store t x y, type, pos, after, guard⟩ (.st n (iV x) (iV y)) := fun C f l H v H1 hf hr => by
 have hr : (hSt n (iV x) (iV y) f H).Is v H1 := hr
 unfold hSt at hr
 rw [jO hf, jO hf] at hr
 split at hr
 ·rename_i A i e hx
  unfold stB at hr
  split at hr
  ·rename_i cs ty lo ver hg
   obtain ⟨h1, hr⟩ := lC hr
   obtain ⟨h2, hr⟩ := lC hr
   obtain ⟨h3, hr⟩ := lC hr
   obtain ⟨h4, hr⟩ := lC hr
   obtain ⟨h5, hr⟩ := lC hr
   obtain ⟨rfl, rfl⟩ := Rs.aR hr
   rw [xJ] at h1 h3
   have h1 : n = (ev l y).cells.toList.length := by simpa only [decide_eq_true_eq] using h1
   have h3 : e = cs.length := by simpa only [decide_eq_true_eq] using h3
   have h4 : i + n ≤ e := eo h4
   have h5 : lo ≤ e := eo h5
   simp only [opD, qH, hx, hg]
   rw [if_pos ⟨by rw [hn, h1], h2, h3, by omega, h5⟩]
   simp only [dN]
   rw [h3]
  ·exact absurd hr Rs.ar
 ·exact absurd hr Rs.ar
theorem c0C {s : TypeId} {k n : Nat} {fd : Field} (hf' : nZ P s k = some fd) (hn : iC P fd.type = some n) (hn0 : n ≠ 0) (x : Operand) : LowPl P ⟨dst, .fieldAddr s x k, type, pos, after, guard⟩ (.fa fd.offset (iV x)) := fun C f l H v H1 hf hr => by
 have hr : (hFa fd.offset (iV x) f H).Is v H1 := hr
 unfold hFa at hr
 rw [jO hf] at hr
 split at hr
 ·rename_i A i e hx
  rw [jS] at hr
  obtain ⟨rfl, rfl⟩ := Rs.aN hr
  simp only [opD, hx, hf', cY, hn]
  rw [if_neg (by simpa using hn0)]; rfl
 ·exact absurd hr Rs.ar
theorem b3w {A i e size n : Nat} {H H1 : Heap} {j v : Value} (h : (ixP A i e size n H j).Is v H1) : H1 = H ∧ ∃ k m, j = .int k (.ofNat m) ∧ m < n ∧ v = .pointer (some ⟨A, i + m * size, some e⟩) := by
 unfold ixP at h
 split at h
 ·rename_i k m
  obtain ⟨h1, h⟩ := lC h
  rw [jS] at h
  obtain ⟨rfl, rfl⟩ := Rs.aN h
  rw [blt_eq] at h1
  exact ⟨rfl, k, m, rfl, by simpa using h1, rfl⟩
 ·exact absurd h Rs.ar
theorem b8z {t elem : TypeId} {size : Nat} (ht : P.underlying t = some (.slice elem)) (hs : iC P elem = some size) (x i : Operand) : LowPl P ⟨dst, .indexAddr t x i, type, pos, after, guard⟩ (.ixs size (iV x) (iV i)) := fun C f l H v H1 hf hr => by
 have hr : (b9V size (iV x) (iV i) f H).Is v H1 := hr
 unfold b9V at hr
 rw [jO hf, jO hf] at hr
 split at hr
 ·rename_i A a e n c hx
  obtain ⟨rfl, k, m, hj, hm, rfl⟩ := b3w hr
  simp only [opD, ht, hx, hj, hs, cY]
  rw [if_pos (by simp; omega)]
  rfl
 ·exact absurd hr Rs.ar
theorem c3f (a b : Nat) : Nat.beq a b = (a == b) := by
 cases h : Nat.beq a b with
 | true => rw [dQ h]; simp
 | false => have := Nat.ne_of_beq_eq_false h; simp [this]
theorem c0y {A i size n : Nat} {H H1 : Heap} {j v : Value} (h : (ixG A i size n H j).Is v H1) : H1 = H ∧ ∃ k m, j = .int k (.ofNat m) ∧ m < n ∧ v = .pointer (some ⟨A, i + m * size, none⟩) := by
 unfold ixG at h
 split at h
 ·rename_i k m
  obtain ⟨h1, h⟩ := lC h
  rw [jS] at h
  obtain ⟨rfl, rfl⟩ := Rs.aN h
  exact ⟨rfl, k, m, rfl, by simpa [gW] using h1, rfl⟩
 ·exact absurd h Rs.ar
theorem b6F {t elem : TypeId} {n size : Nat} (ht : P.underlying t = some (.array n elem)) (hs : iC P elem = some size) (x i : Operand) : LowPl P ⟨dst, .indexAddr t x i, type, pos, after, guard⟩ (.ixa n size (iV x) (iV i)) := fun C f l H v H1 hf hr => by
 have hr : (c0D n size (iV x) (iV i) f H).Is v H1 := hr
 unfold c0D at hr
 rw [jO hf, jO hf] at hr
 split at hr
 ·rename_i A a e hx
  obtain ⟨rfl, k, m, hj, hm, rfl⟩ := b3w hr
  simp only [opD, ht, hx, hj, hs, cY]
  rw [if_pos (by simp; omega)]
  rfl
 ·rename_i A a hx
  obtain ⟨rfl, k, m, hj, hm, rfl⟩ := c0y hr
  simp only [opD, ht, hx, hj, hs, cY]
  rw [if_pos (by simp; omega)]
  rfl
 ·exact absurd hr Rs.ar
theorem b6P (i : Nat) (x : Operand) : LowPl P ⟨dst, .extract x i, type, pos, after, guard⟩ (.ext i (iV x)) := fun C f l H v H1 hf hr => by
 have hr : (c1r i (iV x) f H).Is v H1 := hr
 unfold c1r at hr
 rw [jO hf] at hr
 split at hr
 ·rename_i vs hx
  obtain ⟨h1, rfl⟩ := b3q hr
  rw [xV] at h1
  simp only [opD, hx]
  simp [h1]
 ·exact absurd hr Rs.ar
theorem b6Z {c : Call} {elem : TypeId} (hc : c.callee = .builtin .len) (h1 : c.args.size = 1) (h2 : c.argTypes.size = 1) (ht : P.underlying (c.argTypes.getD 0 0) = some (.slice elem)) : LowPl P ⟨dst, .call c, type, pos, after, guard⟩ (.len (iV (c.args.getD 0 (.tmp 0)))) := fun C f l H v H1 hf hr => by
 have hr : (c1g (iV (c.args.getD 0 (.tmp 0))) f H).Is v H1 := hr
 unfold c1g at hr
 rw [jO hf] at hr
 split at hr
 ·rename_i a n k hx
  obtain ⟨rfl, rfl⟩ := Rs.aR hr
  simp only [opD, hc, h1, h2, ht, hx, vZ]; rfl
 ·exact absurd hr Rs.ar
theorem b5l {c : Call} (hc : c.callee = .builtin .len) (h1 : c.args.size = 1) (h2 : c.argTypes.size = 1) (ht : P.underlying (c.argTypes.getD 0 0) = some .string) : LowPl P ⟨dst, .call c, type, pos, after, guard⟩ (.slen (iV (c.args.getD 0 (.tmp 0)))) := fun C f l H v H1 hf hr => by
 have hr : (b3s (iV (c.args.getD 0 (.tmp 0))) f H).Is v H1 := hr
 unfold b3s at hr
 rw [jO hf] at hr
 split at hr
 ·rename_i s hx
  obtain ⟨rfl, rfl⟩ := Rs.aR hr
  simp only [opD, hc, h1, h2, ht, hx, vZ]; rfl
 ·exact absurd hr Rs.ar
theorem b8D {c : Call} {elem : TypeId} {size bytes : Nat} {z : Value} (hc : c.callee = .builtin .append) (h1 : c.args.size = 2) (h2 : c.argTypes.size = 2) (hi : ((P.underlying (c.argTypes.getD 1 0)).map pQ) = some true)
 (he : iF P (c.argTypes.getD 0 0) = some elem) (hs : iC P elem = some size) (hb : nI P elem = some bytes) (hz : iU P elem = some z) (hzs : z.cells.size = size) (hs0 : size ≠ 0) :
 LowPl P ⟨dst, .call c, type, pos, after, guard⟩ (.app elem size bytes (iV (c.args.getD 0 (.tmp 0))) (iV (c.args.getD 1 (.tmp 0)))) := fun C f l H v H1 hf hr => by
 have hr : (c0g P elem size bytes (iV (c.args.getD 0 (.tmp 0))) (iV (c.args.getD 1 (.tmp 0))) f H).Is v H1 := hr
 unfold c0g at hr
 rw [jO hf, jO hf] at hr
 have hD : opD P ⟨dst, .call c, type, pos, after, guard⟩ l H = nF P H (c.argTypes.getD 0 0) (ev l (c.args.getD 0 (.tmp 0))) (ev l (c.args.getD 1 (.tmp 0))) := by
  simp only [opD, hc, h1, h2, hi]; rfl
 rw [hD]
 unfold nF
 rw [he, cY, hs, cY, hb, cY, hz, cY]
 split at hr
 ·rename_i n m hsrc
  rw [hsrc, cY]
  unfold c2o at hr
  split at hr
  ·rename_i k cc hx
   obtain ⟨g1, hq1⟩ := lC hr
   obtain ⟨g2, hq2⟩ := lC hq1
   obtain ⟨g3, hq⟩ := lC hq2
   clear hr hq1 hq2
   obtain rfl : k = 0 := dQ g1
   obtain rfl : cc = 0 := dQ g2
   have g3 : n * (bytes + 1) ≤ oO := eo g3
   simp only [hx]
   rw [if_pos (by simp [hs0, hzs, g3])]
   rw [kG] at hq
   by_cases hn : n = 0
   ·subst hn
    rw [if_pos (by rfl)] at hq
    obtain ⟨rfl, rfl⟩ := Rs.aN hq
    simp
   ·rw [if_neg (fun e => hn (dQ e))] at hq
    obtain ⟨rfl, rfl⟩ := Rs.aR hq
    simp [hn]
  ·rename_i A i e k cc hx
   unfold c2u at hr
   split at hr
   ·rename_i cs ty lo ver hg
    obtain ⟨g2, hr⟩ := lC hr
    obtain ⟨g4, hr⟩ := lC hr
    obtain ⟨g5, hr⟩ := lC hr
    have g2 : (ty == elem || iC P ty == some size) = true := by
     rw [c3f] at g2
     cases hh : (ty == elem) with
     | true => rfl
     | false => rw [hh] at g2; exact g2
    rw [xJ] at g4
    have g4 : e = cs.length := by simpa only [decide_eq_true_eq] using g4
    have g5 : lo ≤ e := eo g5
    simp only [hx, hg]
    rw [kG] at hr
    by_cases g3 : i + k * size = e
    ·rw [if_pos (by simpa using g3)] at hr
     obtain ⟨g1, hr⟩ := lC hr
     obtain ⟨rfl, rfl⟩ := Rs.aR hr
     have g1 : (k + n) * (bytes + 1) ≤ oO := eo g1
     have et : (Bool.rec (motive := fun _ => Nat) 2 ver (Nat.beq ty elem)) = (if (ty == elem) = true then ver else 2) := by
      rw [c3f]
      cases hh : (ty == elem) with
      | true => rfl
      | false => rfl
     rw [et, if_pos (by simp only [g2, fq, da, bne_iff_ne, beq_iff_eq, decide_eq_true_eq]; exact ⟨⟨⟨⟨⟨hs0, g1⟩, by simpa using hzs⟩, g3⟩, g4⟩, g5⟩)]
    ·rw [if_neg (by simpa using g3)] at hr
     rw [kG] at hr
     by_cases hn : n = 0
     ·rw [if_pos (by simpa using hn)] at hr
      exact absurd hr Rs.ar
     ·rw [if_neg (by simpa using hn)] at hr
      obtain ⟨g6, hr⟩ := lC hr
      obtain ⟨rfl, rfl⟩ := Rs.aR hr
      have g6 : i + (k + n) * size ≤ e := eo g6
      rw [if_neg (by simp [g3]), if_pos (by simp only [g2, fq, da, bne_iff_ne, beq_iff_eq, decide_eq_true_eq]; exact ⟨⟨⟨⟨⟨hs0, hn⟩, by simpa using hzs⟩, g6⟩, g4⟩, g5⟩), g4]
   ·exact absurd hr Rs.ar
  ·exact absurd hr Rs.ar
 ·exact absurd hr Rs.ar
theorem b1u {c : Call} {k : FuncId} (hc : c.callee = .value (.func k)) (hok : (Op.call c).operands.toList.all iR = true) : vB P ⟨dst, .call c, type, pos, after, guard⟩ (.callF k (kQ k) (c.args.toList.map iV)) := fun C H0 f l H v H1 hC hk hf hr => by
 have hr : (a3s f (c.args.toList.map iV) fun l => C.fn (kQ k) k l H).Is v H1 := hr
 rw [a5h hf] at hr
 obtain ⟨h1 | hx, h2⟩ := hC.fn _ _ _ _ _ _ hk hr rfl
 case inr => exact ⟨.ext hok c (.func k) k #[] #[] rfl hc rfl (by simpa using hx), h2⟩
 obtain ⟨he, v', H', hcall, rfl, rfl⟩ := h1.fn
 exact ⟨.call hok c (.func k) k #[] #[] rfl hc rfl he (by simpa using hcall), h2⟩
theorem b2c {c : Call} {g : Operand} (hc : c.callee = .value g) (hok : (Op.call c).operands.toList.all iR = true) : vB P ⟨dst, .call c, type, pos, after, guard⟩ (.callV (iV g) (c.args.toList.map iV)) := fun C H0 f l H v H1 hC hk hf hr => by
 have hr : (a3s f (c.args.toList.map iV) fun l => a9h C l H (mK f (iV g))).Is v H1 := hr
 rw [a5h hf, jO hf] at hr
 unfold a9h at hr
 split at hr
 ·rename_i k a b hg
  rw [jS, lK] at hr
  obtain ⟨h1 | hx, h2⟩ := hC.fn _ _ _ _ _ _ hk hr rfl
  case inr => exact ⟨.ext hok c g k ⟨a⟩ ⟨b⟩ rfl hc hg (by simpa [wR] using hx), h2⟩
  obtain ⟨he, v', H', hcall, rfl, rfl⟩ := h1.fn
  exact ⟨.call hok c g k ⟨a⟩ ⟨b⟩ rfl hc hg he (by simpa [wR] using hcall), h2⟩
 ·rename_i L a b hg
  obtain ⟨h1, h2⟩ := hC.rd _ _ _ _ _ hk hr
  exact ⟨.round hok c g L _ _ rfl hc hg h1, h2⟩
 ·exact absurd hr Rs.ar
end
set_option maxHeartbeats 1000000 in
theorem a9G {α : Type} (o : Oper) (K : LOp → α) : ∃ lo, vB P o lo ∧ xT P o K = K lo := by
 unfold xT
 rw [kG]
 by_cases hok : o.op.operands.toList.all iR = true
 case neg => rw [if_neg hok]; exact ⟨_, b6p o, rfl⟩
 rw [if_pos hok]
 have gen : ∃ lo, vB P o lo ∧ K (.gen o) = K lo := ⟨_, (b7S o).low hok, rfl⟩
 obtain ⟨dst, op, type, pos, after, guard⟩ := o
 unfold c2m
 cases op with
 | move x => simp only [kY]; exact ⟨_, (b9N x).low hok, rfl⟩
 | assign x => simp only [kY]; exact ⟨_, (c1k x).low hok, rfl⟩
 | pick c a b => simp only [kY]; exact ⟨_, (b4Z c a b).low hok, rfl⟩
 | binOp op t x y yt =>
   simp only [kY, kG]
   split
   ·split
    ·rename_i g hg; exact ⟨_, (b8r hg t yt x y).low hok, rfl⟩
    ·exact gen
   ·exact gen
 | load t x =>
   simp only [kY]
   split
   ·rename_i ht
    cases hn : iC P t with
    | none => exact gen
    | some n => rw [oR]; exact ⟨_, (b7f ht hn x).low hok, rfl⟩
   ·rename_i ht; exact ⟨_, (b7w ht x).low hok, rfl⟩
   ·exact gen
 | store t x y =>
   simp only [kY]
   cases hn : iC P t with
   | none => exact gen
   | some n => rw [oR]; exact ⟨_, (b9M hn x y).low hok, rfl⟩
 | fieldAddr s x k =>
   simp only [kY]
   split
   ·rename_i fd hfd
    split
    ·exact gen
    ·rename_i n hn0 hn
     rw [jS]
     exact ⟨_, (c0C hfd hn (fun e => hn0 e) x).low hok, rfl⟩
    ·exact gen
   ·exact gen
 | indexAddr t x i =>
   simp only [kY]
   split
   ·rename_i elem ht
    cases hs : iC P elem with
    | none => exact gen
    | some n => rw [oR]; exact ⟨_, (b8z ht hs x i).low hok, rfl⟩
   ·rename_i n elem ht
    cases hs : iC P elem with
    | none => exact gen
    | some m => rw [oR]; exact ⟨_, (b6F ht hs x i).low hok, rfl⟩
   ·exact gen
 | extract t i => simp only [kY]; rw [jS]; exact ⟨_, (b6P i t).low hok, rfl⟩
 | call c =>
   simp only
   unfold b6e
   split
   ·rename_i k hc
    rw [lK, a3H]
    exact ⟨_, b1u hc hok, rfl⟩
   ·rename_i g _ hc
    rw [kY, a3H]
    exact ⟨_, b2c hc hok, rfl⟩
   ·rename_i hc
    rw [kG]
    split
    ·rename_i h1
     simp only [da, beq_iff_eq] at h1
     split
     ·rename_i elem ht; rw [kY]; exact ⟨_, (b6Z hc h1.1 h1.2 ht).low hok, rfl⟩
     ·rename_i ht; rw [kY]; exact ⟨_, (b5l hc h1.1 h1.2 ht).low hok, rfl⟩
     ·exact gen
    ·exact gen
   ·rename_i hc
    rw [kG]
    split
    ·rename_i h1
     simp only [da, beq_iff_eq] at h1
     split
     ·rename_i elem he
      cases hs : iC P elem with
      | none => exact gen
      | some size =>
        rw [oR]
        cases hb : nI P elem with
        | none => exact gen
        | some bytes =>
          rw [oR]
          split
          ·rename_i z hz
           rw [kG]
           split
           ·rename_i h2
            simp only [da, beq_iff_eq, bne_iff_ne] at h2
            rw [jS, kY, kY]
            exact ⟨_, (b8D hc h1.1.1 h1.1.2 h1.2 he hs hb hz h2.1 h2.2).low hok, rfl⟩
           ·exact gen
          ·exact gen
     ·exact gen
    ·exact gen
   ·exact gen
 | _ => exact gen
def DOk (k : Nat) (dst : Option Tmp) (d : Option Pth) : Prop := (dst = none ∧ d = none) ∨ ∃ t, dst = some t ∧ t < k ∧ d = some (kQ t)
inductive LowOps (P : Program) (k : Nat) (ops : Array Oper) : List Oper → LOps → Prop
 | nil : LowOps P k ops [] .nil
 | cons {o : Oper} {os : List Oper} {d : Option Pth} {lo : LOp} {r : LOps} (hd : DOk k o.dst d) (ho : vB P o lo) (hg : o.guard = none) (hr : LowOps P k ops os r) : LowOps P k ops (o :: os) (.cons d lo r)
 | gcons {o : Oper} {os : List Oper} {d : Option Pth} {lo : LOp} {r : LOps} {j t : Nat} {w : Bool} (hd : DOk k o.dst d) (ho : vB P o lo) (hg : o.guard = some (j, w)) (ht : (ops[j]?).bind (·.dst) = some t) (htk : t < k) (hr : LowOps P k ops os r) : LowOps P k ops (o :: os) (.gcons (kQ t) w d lo r)
def GOk (ops : Array Oper) (o : Oper) (g : Option (Pth × Bool)) : Prop := (o.guard = none ∧ g = none) ∨ ∃ j w t, o.guard = some (j, w) ∧ (ops[j]?).bind (·.dst) = some t ∧ g = some (kQ t, w)
theorem GOk.runs {ops : Array Oper} {o : Oper} {g : Option (Pth × Bool)} (h : GOk ops o g) {f : Fr} {l : List Value} (hf : FAg f l) (hw : Region.wanted o (iT ops l) = true) : b4l f g = true := by
 rcases h with ⟨_, rfl⟩ | ⟨j, w, t, hg, ht, rfl⟩
 ·rfl
 ·simp only [Region.wanted, hg, iT, ht] at hw
  show isB (nQ (kQ t) f) w = true
  rw [hf t, nX, dc]
  cases hl : l[t]? with
  | none => rw [hl] at hw; simp at hw
  | some v =>
    rw [hl] at hw
    cases v <;> simp at hw
    subst hw
    rename_i b
    cases b <;> rfl
inductive LowTab (P : Program) (ops : Array Oper) : List (Nat × Nat) → List (Nat × Option Nat × Option (Pth × Bool) × LOp) → Prop
 | nil : LowTab P ops [] []
 | cons {i m : Nat} {o : Oper} {lo : LOp} {tab : List (Nat × Nat)} {t : List (Nat × Option Nat × Option (Pth × Bool) × LOp)} {g : Option (Pth × Bool)} (ho : ops[i]? = some o) (hgd : GOk ops o g) (hl : vB P o lo) (hr : LowTab P ops tab t) :
    LowTab P ops ((i, m) :: tab) ((ops.size - 1 - i, if m < ops.size then some (ops.size - 1 - m) else none, g, lo) :: t)
inductive Low (P : Program) (k : Nat) : Code → LCode → Prop
 | bad (c : Code) : Low P k c .bad
 | skip : Low P k .skip .skip
 | label (t : Nat) : Low P k (.label t) .skip
 | reg {id : Nat} {ops : Array Oper} {d : Bool} {lo : LOps} (h : LowOps P k ops ops.toList lo) (hd : d = true → mS P ops = some []) : Low P k (.region id ops d) (.reg lo)
 | drw {id : Nat} {ops : Array Oper} {lo : LOps} {tab : List (Nat × Nat)} {t : List (Nat × Option Nat × Option (Pth × Bool) × LOp)} (h : LowOps P k ops ops.toList lo) (ht : mS P ops = some tab) (hl : LowTab P ops tab t) : Low P k (.region id ops true) (.drw lo t)
 | seq {a b : Code} {A B : LCode} (ha : Low P k a A) (hb : Low P k b B) : Low P k (.seq a b) (.seq A B)
 | cond {c : Operand} {x y : Code} {X Y : LCode} (hc : iR c = true) (hx : Low P k x X) (hy : Low P k y Y) : Low P k (.cond c x y) (.cond (iV c) X Y)
 | block {id : Nat} {b : Code} {B : LCode} (hb : Low P k b B) : Low P k (.block id b) (.block id B)
 | loop {b : Code} {B : LCode} (hb : Low P k b B) : Low P k (.loop b) (.loop B)
 | exit (id : Nat) : Low P k (.exit id) (.exit id)
 | ret : Low P k .ret .ret
 | range {g : Operand} {ps : Array Tmp} {assign body : Code} {A B : LCode} (hg : iR g = true) (hps : ∀ t ∈ ps.toList, t < k) (ha : Low P k assign A) (hb : Low P k body B) :
    Low P k (.rangeFunc g ps assign body) (.range (iV g) ((List.range k).map kQ) (ps.toList.map kQ) ps assign body A B)
section
variable {α : Type}
theorem b5o (k : Nat) (dst : Option Tmp) (no : α) (K : Option Pth → α) : (∃ d, DOk k dst d ∧ a5U k dst no K = K d) ∨ a5U k dst no K = no := by
 cases dst with
 | none => exact .inl ⟨none, .inl ⟨rfl, rfl⟩, rfl⟩
 | some t =>
   simp only [a5U, kG]
   split
   ·rename_i h
    rw [lK]
    rw [blt_eq] at h
    exact .inl ⟨_, .inr ⟨t, rfl, by simpa using h, rfl⟩, rfl⟩
   ·exact .inr rfl
theorem a1N (k : Nat) (ops : Array Oper) (l : List Oper) (K : LOps → α) (no : α) : (∃ L, LowOps P k ops l L ∧ tJ P k ops l K no = K L) ∨ tJ P k ops l K no = no := by
 induction l generalizing K with
 | nil => exact .inl ⟨_, .nil, rfl⟩
 | cons o l ih =>
   let K2 : Option Pth → LOp → α := fun d o' => match o.guard with
    | none => tJ P k ops l (fun r => K (.cons d o' r)) no
    | some (j, w) => match (ops[j]?).bind (·.dst) with
      | some t => nN (Nat.blt t k) no (lO (kQ t) fun p => yY w fun w => tJ P k ops l (fun r => K (.gcons p w d o' r)) no)
      | none => no
   have e : tJ P k ops (o :: l) K no = a5U k o.dst no fun d => xT P o fun o' => K2 d o' := rfl
   rw [e]
   rcases b5o k o.dst no (fun d => xT P o fun o' => K2 d o') with ⟨d, hd, h1⟩ | h1
   ·rw [h1]
    obtain ⟨lo, hlo, h2⟩ := a9G (P := P) o (fun o' => K2 d o')
    rw [h2]
    simp only [K2]
    split
    ·rename_i hg
     rcases ih (fun r => K (.cons d lo r)) with ⟨L, hL, h3⟩ | h3
     ·exact .inl ⟨_, .cons hd hlo hg hL, h3⟩
     ·exact .inr h3
    ·rename_i j w hg
     split
     ·rename_i t ht
      rw [kG]
      split
      ·rename_i htk
       rw [lK, uN]
       rw [blt_eq] at htk
       rcases ih (fun r => K (.gcons (kQ t) w d lo r)) with ⟨L, hL, h3⟩ | h3
       ·exact .inl ⟨_, .gcons hd hlo hg ht (by simpa using htk) hL, h3⟩
       ·exact .inr h3
      ·exact .inr rfl
     ·exact .inr rfl
   ·exact .inr h1
theorem c1x (k : Nat) (ops : Array Oper) (o : Oper) (no : α) (K : Option (Pth × Bool) → α) : (∃ g, GOk ops o g ∧ loG k ops o.guard no K = K g) ∨ loG k ops o.guard no K = no := by
 cases hg : o.guard with
 | none => exact .inl ⟨none, .inl ⟨hg, rfl⟩, rfl⟩
 | some x =>
   obtain ⟨j, w⟩ := x
   unfold loG
   cases ht : (ops[j]?).bind (·.dst) with
   | none => exact .inr (by simp only [ht])
   | some t =>
     simp only [ht, kG]
     split
     ·refine .inl ⟨some (kQ t, w), .inr ⟨j, w, t, hg, ht, rfl⟩, ?_⟩
      rw [lK, uN]
     ·exact .inr rfl
theorem b6a (k : Nat) (ops : Array Oper) (tab : List (Nat × Nat)) (K : List (Nat × Option Nat × Option (Pth × Bool) × LOp) → α) (no : α) : (∃ t, LowTab P ops tab t ∧ sX P k ops ops.size tab K no = K t) ∨ sX P k ops ops.size tab K no = no := by
 induction tab generalizing K with
 | nil => exact .inl ⟨_, .nil, rfl⟩
 | cons x tab ih =>
   obtain ⟨i, m⟩ := x
   cases ho : ops[i]? with
   | none =>
     refine .inr ?_
     show (match ops[i]? with
      | some o => _
      | none => no) = no
     rw [ho]
   | some o =>
     let K2 : Option (Pth × Bool) → LOp → α := fun g o' => jX (ops.size - 1 - i) fun i => nN (Nat.blt m ops.size) (sX P k ops ops.size tab (fun l => K ((i, none, g, o') :: l)) no) (jX (ops.size - 1 - m) fun m => sX P k ops ops.size tab (fun l => K ((i, some m, g, o') :: l)) no)
     have e : sX P k ops ops.size ((i, m) :: tab) K no = loG k ops o.guard no fun g => xT P o fun o' => K2 g o' := by
      show (match ops[i]? with
       | some o => loG k ops o.guard no fun g => xT P o fun o' => K2 g o'
       | none => no) = _
      rw [ho]
     rw [e]
     rcases c1x k ops o no (fun g => xT P o fun o' => K2 g o') with ⟨g, hgd, h1⟩ | h1
     ·rw [h1]
      obtain ⟨lo, hlo, h2⟩ := a9G (P := P) o (fun o' => K2 g o')
      rw [h2]
      show (∃ t, _ ∧ jX (ops.size - 1 - i) (fun i => nN (Nat.blt m ops.size) (sX P k ops ops.size tab (fun l => K ((i, none, g, lo) :: l)) no) (jX (ops.size - 1 - m) fun m => sX P k ops ops.size tab (fun l => K ((i, some m, g, lo) :: l)) no)) = K t) ∨ jX (ops.size - 1 - i) (fun i => nN (Nat.blt m ops.size) (sX P k ops ops.size tab (fun l => K ((i, none, g, lo) :: l)) no) (jX (ops.size - 1 - m) fun m => sX P k ops ops.size tab (fun l => K ((i, some m, g, lo) :: l)) no)) = no
      rw [jS, kG, jS, blt_eq]
      by_cases hm : m < ops.size
      ·rw [if_pos (by simpa using hm)]
       rcases ih (fun l => K ((ops.size - 1 - i, some (ops.size - 1 - m), g, lo) :: l)) with ⟨t, ht, h3⟩ | h3
       ·have := LowTab.cons (m := m) ho hgd hlo ht
        rw [if_pos hm] at this
        exact .inl ⟨_, this, h3⟩
       ·exact .inr h3
      ·rw [if_neg (by simpa using hm)]
       rcases ih (fun l => K ((ops.size - 1 - i, none, g, lo) :: l)) with ⟨t, ht, h3⟩ | h3
       ·have := LowTab.cons (m := m) ho hgd hlo ht
        rw [if_neg hm] at this
        exact .inl ⟨_, this, h3⟩
       ·exact .inr h3
     ·exact .inr h1
theorem b1h (k : Nat) (l : List Tmp) (K : List Pth → α) (no : α) : ((∀ t ∈ l, t < k) ∧ wA k l K no = K (l.map kQ)) ∨ wA k l K no = no := by
 induction l generalizing K with
 | nil => exact .inl ⟨by simp, rfl⟩
 | cons t l ih =>
   show _ ∨ nN (Nat.blt t k) no (lO (kQ t) fun p => wA k l (fun l => K (p :: l)) no) = no
   have e : wA k (t :: l) K no = nN (Nat.blt t k) no (lO (kQ t) fun p => wA k l (fun l => K (p :: l)) no) := rfl
   rw [e, kG, lK, blt_eq]
   by_cases h : t < k
   ·rw [if_pos (by simpa using h)]
    rcases ih (fun l => K (kQ t :: l)) with ⟨h1, h2⟩ | h2
    ·exact .inl ⟨by simpa using ⟨h, h1⟩, h2⟩
    ·exact .inr h2
   ·rw [if_neg (by simpa using h)]; exact .inr rfl
theorem b1w (k : Nat) (c : Code) (K : LCode → α) : ∃ C, Low P k c C ∧ mX P k c K = K C := by
 induction c generalizing K with
 | skip => exact ⟨_, .skip, rfl⟩
 | region id ops d =>
   cases d with
   | false =>
     show ∃ C, _ ∧ tJ P k ops ops.toList (fun l => K (.reg l)) (K .bad) = K C
     rcases a1N (P := P) k ops ops.toList (fun l => K (.reg l)) (K .bad) with ⟨L, hL, h⟩ | h
     ·exact ⟨_, .reg hL (fun h => by cases h), h⟩
     ·exact ⟨_, .bad _, h⟩
   | true =>
     show ∃ C, _ ∧ (match mS P ops with
      | some [] => tJ P k ops ops.toList (fun l => K (.reg l)) (K .bad)
      | some tab => tJ P k ops ops.toList (fun l => sX P k ops ops.size tab (fun t => K (.drw l t)) (K .bad)) (K .bad)
      | none => K .bad) = K C
     split
     ·rename_i hd
      rcases a1N (P := P) k ops ops.toList (fun l => K (.reg l)) (K .bad) with ⟨L, hL, h⟩ | h
      ·exact ⟨_, .reg hL (fun _ => hd), h⟩
      ·exact ⟨_, .bad _, h⟩
     ·rename_i tab _ hd
      rcases a1N (P := P) k ops ops.toList (fun l => sX P k ops ops.size tab (fun t => K (.drw l t)) (K .bad)) (K .bad) with ⟨L, hL, h⟩ | h
      ·rw [h]
       rcases b6a (P := P) k ops tab (fun t => K (.drw L t)) (K .bad) with ⟨t, ht, h2⟩ | h2
       ·exact ⟨_, .drw hL hd ht, h2⟩
       ·exact ⟨_, .bad _, h2⟩
      ·exact ⟨_, .bad _, h⟩
     ·exact ⟨_, .bad _, rfl⟩
 | seq a b iha ihb =>
   show ∃ C, _ ∧ mX P k a (fun a => mX P k b fun b => K (.seq a b)) = K C
   obtain ⟨A, hA, h1⟩ := iha (fun a => mX P k b fun b => K (.seq a b))
   obtain ⟨B, hB, h2⟩ := ihb (fun b => K (.seq A b))
   exact ⟨_, .seq hA hB, h1.trans h2⟩
 | cond c x y ihx ihy =>
   show ∃ C, _ ∧ nN (iR c) (K .bad) (lP c fun c => mX P k x fun x => mX P k y fun y => K (.cond c x y)) = K C
   rw [kG]
   split
   ·rename_i hc
    rw [kY]
    obtain ⟨X, hX, h1⟩ := ihx (fun x => mX P k y fun y => K (.cond (iV c) x y))
    obtain ⟨Y, hY, h2⟩ := ihy (fun y => K (.cond (iV c) X y))
    exact ⟨_, .cond hc hX hY, h1.trans h2⟩
   ·exact ⟨_, .bad _, rfl⟩
 | block id b ih =>
   show ∃ C, _ ∧ jX id (fun id => mX P k b fun b => K (.block id b)) = K C
   rw [jS]
   obtain ⟨B, hB, h1⟩ := ih (fun b => K (.block id b))
   exact ⟨_, .block hB, h1⟩
 | loop b ih =>
   show ∃ C, _ ∧ mX P k b (fun b => K (.loop b)) = K C
   obtain ⟨B, hB, h1⟩ := ih (fun b => K (.loop b))
   exact ⟨_, .loop hB, h1⟩
 | rangeFunc g ps assign body iha ihb =>
   show ∃ C, _ ∧ nN (iR g) (K .bad) (lP g fun g' => b2O k fun pp => wA k ps.toList (fun q => mX P k assign fun a => mX P k body fun b => K (.range g' pp q ps assign body a b)) (K .bad)) = K C
   rw [kG]
   split
   ·rename_i hg
    rw [kY, a9M]
    rcases b1h k ps.toList (fun q => mX P k assign fun a => mX P k body fun b => K (.range (iV g) ((List.range k).map kQ) q ps assign body a b)) (K .bad) with ⟨hps, h⟩ | h
    ·obtain ⟨A, hA, h1⟩ := iha (fun a => mX P k body fun b => K (.range (iV g) ((List.range k).map kQ) (ps.toList.map kQ) ps assign body a b))
     obtain ⟨B, hB, h2⟩ := ihb (fun b => K (.range (iV g) ((List.range k).map kQ) (ps.toList.map kQ) ps assign body A b))
     exact ⟨_, .range hg hps hA hB, h.trans (h1.trans h2)⟩
    ·exact ⟨_, .bad _, h⟩
   ·exact ⟨_, .bad _, rfl⟩
 | exit id =>
   show ∃ C, _ ∧ jX id (fun id => K (.exit id)) = K C
   rw [jS]
   exact ⟨_, .exit id, rfl⟩
 | label t => exact ⟨_, .label t, rfl⟩
 | ret => exact ⟨_, .ret, rfl⟩
 | scope b _ => exact ⟨_, .bad _, rfl⟩
 | goto t => exact ⟨_, .bad _, rfl⟩
 | refuse w => exact ⟨_, .bad _, rfl⟩
end
theorem uQ {α : Type} {k : Nat} {f : Fr} {l : List Value} (h : FRel k f l) {dst : Option Tmp} {d : Option Pth} (hd : DOk k dst d) (v : Value) (K : Fr → α) : ∃ f', tM d v f K = K f' ∧ FRel k f' (put l dst v) := by
 rcases hd with ⟨rfl, rfl⟩ | ⟨t, rfl, ht, rfl⟩
 ·exact ⟨f, rfl, h⟩
 ·exact ⟨b4o f t v, rY v (kQ t) f K, h.put ht v⟩
theorem wL {ops : Array Oper} {l : List Value} {j t : Nat} (ht : (ops[j]?).bind (·.dst) = some t) (htl : t < l.length) (w : Bool) : (iT ops l j == some w) = isB (get l t) w := by
 have hg : get l t = l[t] := by rw [nX]; simp [htl]
 unfold iT
 rw [ht, hg]
 simp only [du htl]
 cases hv : l[t] <;> simp [isB]
 rename_i b
 cases b <;> cases w <;> rfl
theorem b8I {k : Nat} {ops : Array Oper} {C : Calls'} {H0 : Heap} (hC : CallsOk P C H0) {os : List Oper} {lo : LOps} (hlo : LowOps P k ops os lo) : ∀ {i : Nat}, ops.toList.drop i = os → ∀ {f : Fr} {l : List Value} {H : Heap} {f1 : Fr} {H1 : Heap},
 FRel k f l → LK H0 H → xC P C lo f H = .ok f1 H1 → ∃ l1, FRel k f1 l1 ∧ OpsR P ops (List.range' i os.length) l H l1 H1 ∧ LK H H1 := by
 induction hlo with
 | nil =>
   intro i _ f l H f1 H1 hf _ h
   injection h with h1 h2
   subst h1 h2
   exact ⟨l, hf, .nil l H, .refl H⟩
 | @cons o os d lo r hd ho hg hr ih =>
   intro i hi f l H f1 H1 hf hk h
   have hio : ops[i]? = some o := by
    have : (ops.toList.drop i)[0]? = some o := by rw [hi]; rfl
    rw [dB] at this
    simpa using this
   have hi' : ops.toList.drop (i + 1) = os := by rw [← fu, hi]; rfl
   have hw : Region.wanted o (iT ops l) = true := by simp [Region.wanted, hg]
   have h : a9R Rf.no d f (xC P C r) (opF P C lo f H) = .ok f1 H1 := h
   have key : ∀ v H2, (opF P C lo f H).Is v H2 → (tM d v f fun f => xC P C r f H2) = .ok f1 H1 → ∃ l1, FRel k f1 l1 ∧ OpsR P ops (List.range' i (o :: os).length) l H l1 H1 ∧ LK H H1 := by
    intro v H2 hop hrest
    obtain ⟨hs, hk2⟩ := ho C H0 f l H v H2 hC hk hf.2 hop
    obtain ⟨f', e, hf'⟩ := uQ hf hd v (fun f => xC P C r f H2)
    rw [e] at hrest
    obtain ⟨l1, h1, h2, h3⟩ := ih hi' hf' (hk.trans hk2) hrest
    exact ⟨l1, h1, .step hio hw hs h2, hk2.trans h3⟩
   cases hop : opF P C lo f H with
   | no => rw [hop] at h; cases h
   | ok v H2 => rw [hop] at h; exact key v H2 (.inl hop) h
   | th v H2 =>
     rw [hop] at h
     have h : wP v (fun v => nH H2 fun H2 => tM d v f fun f => xC P C r f H2) = .ok f1 H1 := h
     rw [xB, lW] at h
     exact key v H2 (.inr hop) h
 | @gcons o os d lo r j t w hd ho hg ht htk hr ih =>
   intro i hi f l H f1 H1 hf hk h
   have hio : ops[i]? = some o := by
    have : (ops.toList.drop i)[0]? = some o := by rw [hi]; rfl
    rw [dB] at this
    simpa using this
   have hi' : ops.toList.drop (i + 1) = os := by rw [← fu, hi]; rfl
   have hwi : Region.wanted o (iT ops l) = isB (nQ (kQ t) f) w := by
    simp only [Region.wanted, hg]
    rw [wL ht (by rw [hf.1]; exact htk) w, hf.2 t]
   have h : nN (isB (nQ (kQ t) f) w) (tM d undef f fun f => xC P C r f H) (a9R Rf.no d f (xC P C r) (opF P C lo f H)) = .ok f1 H1 := h
   rw [kG] at h
   split at h
   ·rename_i hb
    have key : ∀ v H2, (opF P C lo f H).Is v H2 → (tM d v f fun f => xC P C r f H2) = .ok f1 H1 → ∃ l1, FRel k f1 l1 ∧ OpsR P ops (List.range' i (o :: os).length) l H l1 H1 ∧ LK H H1 := by
     intro v H2 hop hrest
     obtain ⟨hs, hk2⟩ := ho C H0 f l H v H2 hC hk hf.2 hop
     obtain ⟨f', e, hf'⟩ := uQ hf hd v (fun f => xC P C r f H2)
     rw [e] at hrest
     obtain ⟨l1, h1, h2, h3⟩ := ih hi' hf' (hk.trans hk2) hrest
     exact ⟨l1, h1, .step hio (by rw [hwi, hb]) hs h2, hk2.trans h3⟩
    cases hop : opF P C lo f H with
    | no => rw [hop] at h; cases h
    | ok v H2 => rw [hop] at h; exact key v H2 (.inl hop) h
    | th v H2 =>
      rw [hop] at h
      have h : wP v (fun v => nH H2 fun H2 => tM d v f fun f => xC P C r f H2) = .ok f1 H1 := h
      rw [xB, lW] at h
      exact key v H2 (.inr hop) h
   ·rename_i hb
    obtain ⟨f', e, hf'⟩ := uQ hf hd undef (fun f => xC P C r f H)
    rw [e] at h
    obtain ⟨l1, h1, h2, h3⟩ := ih hi' hf' hk h
    exact ⟨l1, h1, .past hio (by rw [hwi]; simpa using hb) h2, h3⟩
structure Noted (P : Program) (k : Nat) (ops : Array Oper) (H : Heap) (i n : Nat) (T : Nat → List Value × Heap) (val : Nat → Value) (tr0 tr : List (Fr × Heap × Value)) : Prop where
 step : ∀ j, i ≤ j → j < i + n → vD P ops j (T j) (T (j + 1)) (val j)
 new : ∀ j, i ≤ j → j < i + n → ∃ g, tr[i + n - 1 - j]? = some (g, (T j).2, val j) ∧ FAg g (T j).1
 old : ∀ m, tr[n + m]? = tr0[m]?
 lk : ∀ j, i ≤ j → j ≤ i + n → LK H (T j).2
theorem b5J {k : Nat} {ops : Array Oper} {C : Calls'} {H0 : Heap} (hC : CallsOk P C H0) {os : List Oper} {lo : LOps} (hlo : LowOps P k ops os lo) : ∀ {i : Nat}, ops.toList.drop i = os → ∀ {tr0 tr : List (Fr × Heap × Value)} {f : Fr} {l : List Value} {H : Heap} {f1 : Fr} {H1 : Heap},
 FRel k f l → LK H0 H → qX P C lo tr0 f H = .ok tr f1 H1 → ∃ T val l1, T i = (l, H) ∧ T (i + os.length) = (l1, H1) ∧ FRel k f1 l1 ∧ Noted P k ops H i os.length T val tr0 tr := by
 have more : ∀ {i n : Nat} {o : Oper} {tr0 tr : List (Fr × Heap × Value)} {f : Fr} {l : List Value} {H : Heap} {v : Value} {l2 : List Value} {H2 : Heap} {l1 : List Value} {H1 : Heap} {f1 : Fr}, FRel k f l → vD P ops i (l, H) (l2, H2) v → LK H H2 →
  (∃ T val l1, T (i + 1) = (l2, H2) ∧ T (i + 1 + n) = (l1, H1) ∧ FRel k f1 l1 ∧ Noted P k ops H2 (i + 1) n T val ((f, H, v) :: tr0) tr) →
  ∃ T val l1, T i = (l, H) ∧ T (i + (n + 1)) = (l1, H1) ∧ FRel k f1 l1 ∧ Noted P k ops H i (n + 1) T val tr0 tr := by
  intro i n o tr0 tr f l H v l2 H2 _ H1 f1 hf hst hk ⟨T, val, l1, h1, h2, h3, hN⟩
  refine ⟨fun j => if j ≤ i then (l, H) else T j, fun j => if j ≤ i then v else val j, l1, by simp, ?_, h3, ?_⟩
  ·show (if i + (n + 1) ≤ i then (l, H) else T (i + (n + 1))) = _
   rw [if_neg (by omega), ← h2]; congr 1; omega
  ·refine ⟨fun j hj hn => ?_, fun j hj hn => ?_, fun m => ?_, fun j hj hn => ?_⟩
   ·by_cases he : j = i
    ·subst he
     simp only [di, if_true]
     rw [if_neg (by omega), h1]
     exact hst
    ·rw [if_neg (by omega), if_neg (by omega), if_neg (by omega)]
     exact hN.step j (by omega) (by omega)
   ·by_cases he : j = i
    ·subst he
     simp only [di, if_true]
     refine ⟨f, ?_, hf.2⟩
     have := hN.old 0
     rw [show j + (n + 1) - 1 - j = n + 0 by omega, this]; rfl
    ·rw [if_neg (by omega), if_neg (by omega)]
     obtain ⟨g, hg, hag⟩ := hN.new j (by omega) (by omega)
     exact ⟨g, by rw [← hg]; congr 1; omega, hag⟩
   ·have := hN.old (m + 1)
    rw [show n + 1 + m = n + (m + 1) by omega, this]; rfl
   ·by_cases he : j = i
    ·subst he; simp only [di, if_true]; exact .refl H
    ·rw [if_neg (by omega)]; exact hk.trans (hN.lk j (by omega) (by omega))
 induction hlo with
 | nil =>
   intro i _ tr0 tr f l H f1 H1 hf _ h
   injection h with h1 h2 h3
   subst h1 h2 h3
   exact ⟨fun _ => (l, H), fun _ => undef, l, rfl, rfl, hf, fun j _ h => absurd h (by simp; omega), fun j _ h => absurd h (by simp; omega), fun m => by simp, fun _ _ _ => .refl H⟩
 | @cons o os d lo r hd ho hg hr ih =>
   intro i hi tr0 tr f l H f1 H1 hf hk h
   have hio : ops[i]? = some o := by
    have : (ops.toList.drop i)[0]? = some o := by rw [hi]; rfl
    rw [dB] at this
    simpa using this
   have hi' : ops.toList.drop (i + 1) = os := by rw [← fu, hi]; rfl
   have hw : Region.wanted o (iT ops l) = true := by simp [Region.wanted, hg]
   have h : a9V tr0 f H d (qX P C r) (opF P C lo f H) = .ok tr f1 H1 := h
   have key : ∀ v H2, (opF P C lo f H).Is v H2 → (tM d v f fun f2 => qX P C r ((f, H, v) :: tr0) f2 H2) = .ok tr f1 H1 → ∃ T val l1, T i = (l, H) ∧ T (i + (o :: os).length) = (l1, H1) ∧ FRel k f1 l1 ∧ Noted P k ops H i (o :: os).length T val tr0 tr := by
    intro v H2 hop hrest
    obtain ⟨hs, hk2⟩ := ho C H0 f l H v H2 hC hk hf.2 hop
    obtain ⟨f', e, hf'⟩ := uQ hf hd v (fun f2 => qX P C r ((f, H, v) :: tr0) f2 H2)
    rw [e] at hrest
    have := ih hi' hf' (hk.trans hk2) hrest
    exact more (o := o) (l1 := l) hf ⟨o, hio, rfl, .inl ⟨hw, hs⟩⟩ hk2 this
   cases hop : opF P C lo f H with
   | no => rw [hop] at h; cases h
   | ok v H2 => rw [hop] at h; exact key v H2 (.inl hop) h
   | th v H2 =>
     rw [hop] at h
     have h : wP v (fun v => nH H2 fun H2 => tM d v f fun f2 => qX P C r ((f, H, v) :: tr0) f2 H2) = .ok tr f1 H1 := h
     rw [xB, lW] at h
     exact key v H2 (.inr hop) h
 | @gcons o os d lo r j t w hd ho hg ht htk hr ih =>
   intro i hi tr0 tr f l H f1 H1 hf hk h
   have hio : ops[i]? = some o := by
    have : (ops.toList.drop i)[0]? = some o := by rw [hi]; rfl
    rw [dB] at this
    simpa using this
   have hi' : ops.toList.drop (i + 1) = os := by rw [← fu, hi]; rfl
   have hwi : Region.wanted o (iT ops l) = isB (nQ (kQ t) f) w := by
    simp only [Region.wanted, hg]
    rw [wL ht (by rw [hf.1]; exact htk) w, hf.2 t]
   have h : nN (isB (nQ (kQ t) f) w) (tM d undef f fun f2 => qX P C r ((f, H, undef) :: tr0) f2 H) (a9V tr0 f H d (qX P C r) (opF P C lo f H)) = .ok tr f1 H1 := h
   rw [kG] at h
   split at h
   ·rename_i hb
    have key : ∀ v H2, (opF P C lo f H).Is v H2 → (tM d v f fun f2 => qX P C r ((f, H, v) :: tr0) f2 H2) = .ok tr f1 H1 → ∃ T val l1, T i = (l, H) ∧ T (i + (o :: os).length) = (l1, H1) ∧ FRel k f1 l1 ∧ Noted P k ops H i (o :: os).length T val tr0 tr := by
     intro v H2 hop hrest
     obtain ⟨hs, hk2⟩ := ho C H0 f l H v H2 hC hk hf.2 hop
     obtain ⟨f', e, hf'⟩ := uQ hf hd v (fun f2 => qX P C r ((f, H, v) :: tr0) f2 H2)
     rw [e] at hrest
     exact more (o := o) (l1 := l) hf ⟨o, hio, rfl, .inl ⟨by rw [hwi, hb], hs⟩⟩ hk2 (ih hi' hf' (hk.trans hk2) hrest)
    cases hop : opF P C lo f H with
    | no => rw [hop] at h; cases h
    | ok v H2 => rw [hop] at h; exact key v H2 (.inl hop) h
    | th v H2 =>
      rw [hop] at h
      have h : wP v (fun v => nH H2 fun H2 => tM d v f fun f2 => qX P C r ((f, H, v) :: tr0) f2 H2) = .ok tr f1 H1 := h
      rw [xB, lW] at h
      exact key v H2 (.inr hop) h
   ·rename_i hb
    obtain ⟨f', e, hf'⟩ := uQ hf hd undef (fun f2 => qX P C r ((f, H, undef) :: tr0) f2 H)
    rw [e] at h
    exact more (o := o) (l1 := l) hf ⟨o, hio, rfl, .inr ⟨by rw [hwi]; simpa using hb, rfl, rfl⟩⟩ (.refl H) (ih hi' hf' hk h)
theorem b0C {α : Type} (p : α → Bool) (l : List α) : b5W p l = l.all p := by
 induction l with
 | nil => rfl
 | cons x l ih =>
   show nN (p x) false (b5W p l) = _
   rw [kG, ih, fp]
   cases p x <;> rfl
theorem b8a {v : Value} {r : Rs} (h : b7V v r = true) : ∃ H, r.Is v H := by
 cases r with
 | no => cases h
 | ok w H => exact ⟨H, .inl (by rw [b5k (show veq w v = true from h)])⟩
 | th w H => exact ⟨H, .inr (by rw [b5k (show veq w v = true from h)])⟩
theorem LowTab.get {ops : Array Oper} {tab : List (Nat × Nat)} {t : List (Nat × Option Nat × Option (Pth × Bool) × LOp)} (h : LowTab P ops tab t) {i m : Nat} (hm : (i, m) ∈ tab) : ∃ o lo g, ops[i]? = some o ∧ GOk ops o g ∧ vB P o lo ∧ (ops.size - 1 - i, (if m < ops.size then some (ops.size - 1 - m) else none), g, lo) ∈ t := by
 induction h with
 | nil => cases hm
 | @cons i2 m2 o lo tab t g ho hgd hl hr ih =>
   rcases ek.1 hm with he | hm
   ·injection he with h1 h2
    subst h1 h2
    exact ⟨o, lo, g, ho, hgd, hl, by simp⟩
   ·obtain ⟨o', lo', g', h1, h0, h2, h3⟩ := ih hm
    exact ⟨o', lo', g', h1, h0, h2, eK _ h3⟩
theorem a8j {fl : Fl} {ops : Array Oper} {i m : Nat} (h : (i, m) ∈ mH fl ops) {o : Oper} (ho : ops[i]? = some o) : nG o.op = true := by
 unfold mH at h
 simp only [fm] at h
 obtain ⟨⟨x, j⟩, hx, h⟩ := h
 dsimp only at h
 split at h
 ·rename_i hr
  simp only [dF] at h
  obtain ⟨m', _, e⟩ := h
  injection e with e1 e2
  subst e1
  have := gb.1 hx
  have : ops[j]? = some x := by simpa using this
  rw [this] at ho
  injection ho with ho
  subst ho
  exact hr
 ·cases h
theorem b7P (kC : P.follows .mixedOrders = true) {k id : Nat} {ops : Array Oper} {C : Calls'} {H : Heap} (hC : CallsOk P C H) {lo : LOps} {tab : List (Nat × Nat)} {t : List (Nat × Option Nat × Option (Pth × Bool) × LOp)} (hlo : LowOps P k ops ops.toList lo) (htab : mS P ops = some tab) (hl : LowTab P ops tab t)
 {f : Fr} {l : List Value} {e : Ex} {f1 : Fr} {H1 : Heap} (hf : FRel k f l) (h : b9c P C t (qX P C lo [] f H) = .ok e f1 H1) : ∃ l1, e = .normal ∧ FRel k f1 l1 ∧ Sim P (.region id ops true) l H .normal l1 H1 ∧ LK H H1 := by
 cases hr : qX P C lo [] f H with
 | no => rw [hr] at h; cases h
 | ok tr f2 H2 =>
   rw [hr] at h
   have h : nN (b5W (b4L P C tr H2) t) Rc.no (.ok .normal f2 H2) = .ok e f1 H1 := h
   rw [kG] at h
   split at h
   case isFalse => cases h
   rename_i hall
   injection h with h1 h2 h3
   subst h1 h2 h3
   obtain ⟨T, val, l1, hT0, hTn, hf1, hN⟩ := b5J hC hlo (i := 0) rfl hf (.refl H) hr
   rw [fy, eX] at hTn
   rw [fy] at hN
   have hlk : LK H H2 := by have := hN.lk ops.size (eO _) (by omega); rwa [hTn] at this
   refine ⟨l1, rfl, hf1, ?_, hlk⟩
   have := Sim.draw kC (id := id) htab (T := T) (val := val) ⟨fun j hj => hN.step j (eO _) (by omega)⟩ ?_
   ·rw [hT0, hTn] at this; exact this
   ·intro i m o hm ho hw
    obtain ⟨o', lo', gd, ho', hgd, hlow, hmem⟩ := hl.get hm
    rw [ho] at ho'
    obtain rfl := cX ho'
    rw [b0C, dw] at hall
    have hrd := hall _ hmem
    have hi : i < ops.size := (dh.1 ho).1
    obtain ⟨g, hg, hag⟩ := hN.new i (eO _) (by omega)
    have hg : tr[ops.size - 1 - i]? = some (g, (T i).2, val i) := by rw [← hg]; congr 1; omega
    have hread : nG o.op = true := by
     obtain ⟨fl, _, rfl⟩ := pU htab
     exact a8j hm ho
    have fin : ∀ H3, LK H H3 → b7V (val i) (opF P C lo' g H3) = true → ∃ H4, opD P o (T i).1 H3 = some (val i, H4) := by
     intro H3 hk3 hq
     obtain ⟨H4, h4⟩ := b8a hq
     obtain ⟨hs, _⟩ := hlow C H g (T i).1 H3 (val i) H4 hC hk3 hag h4
     refine ⟨H4, hs.opD fun c fv hc hv => ?_⟩
     rw [hc] at hread
     simp [nG, hv] at hread
    unfold b4L at hrd
    simp only [xV, hg, hgd.runs hag hw] at hrd
    rw [kG, if_pos rfl] at hrd
    by_cases hms : m < ops.size
    ·rw [if_pos hms] at hrd
     obtain ⟨g2, hg2, _⟩ := hN.new m (eO _) (by omega)
     have hg2 : tr[ops.size - 1 - m]? = some (g2, (T m).2, val m) := by rw [← hg2]; congr 1; omega
     simp only [hg2] at hrd
     exact fin _ (hN.lk m (eO _) (by omega)) hrd
    ·rw [if_neg hms] at hrd
     have hle : m = ops.size := by
      obtain ⟨fl, _, rfl⟩ := pU htab
      have := a1U hm
      omega
     subst hle
     have := fin H2 hlk hrd
     rw [hTn]; exact this
def tW (P : Program) : List ResultVar → List LRes → Prop
 | [], [] => True
 | r :: rs, l :: ls => (match r, l with
   | .tmp t, .t p => p = kQ t
   | .cell a t, .c1 p => p = kQ a ∧ jL P t = some false
   | .cell a t, .cn n p => p = kQ a ∧ jL P t = some true ∧ iC P t = some n
   | _, _ => False) ∧ tW P rs ls
 | _, _ => False
theorem b3K {α : Type} (l : List ResultVar) (K : List LRes → α) (no : α) : (∃ r, tW P l r ∧ a0y P l K no = K r) ∨ a0y P l K no = no := by
 induction l generalizing K with
 | nil => exact .inl ⟨[], trivial, rfl⟩
 | cons r l ih =>
   cases r with
   | tmp t =>
     have e : a0y P (.tmp t :: l) K no = lO (kQ t) fun p => a0y P l (fun l => K (.t p :: l)) no := rfl
     rw [e, lK]
     rcases ih (fun l => K (.t (kQ t) :: l)) with ⟨q, h1, h2⟩ | h2
     ·exact .inl ⟨.t (kQ t) :: q, ⟨rfl, h1⟩, h2⟩
     ·exact .inr h2
   | cell a t =>
     have e : a0y P (.cell a t :: l) K no = match jL P t with
      | some true => a2C (iC P t) no fun n => lO (kQ a) fun p => a0y P l (fun l => K (.cn n p :: l)) no
      | some false => lO (kQ a) fun p => a0y P l (fun l => K (.c1 p :: l)) no
      | none => no := rfl
     rw [e]
     split
     ·rename_i ha
      cases hn : iC P t with
      | none => exact .inr rfl
      | some n =>
        rw [oR, lK]
        rcases ih (fun l => K (.cn n (kQ a) :: l)) with ⟨q, h1, h2⟩ | h2
        ·exact .inl ⟨.cn n (kQ a) :: q, ⟨⟨rfl, ha, hn⟩, h1⟩, h2⟩
        ·exact .inr h2
     ·rename_i ha
      rw [lK]
      rcases ih (fun l => K (.c1 (kQ a) :: l)) with ⟨q, h1, h2⟩ | h2
      ·exact .inl ⟨.c1 (kQ a) :: q, ⟨⟨rfl, ha⟩, h1⟩, h2⟩
      ·exact .inr h2
     ·exact .inr rfl
theorem b0i {H H1 : Heap} {f : Fr} {l : List Value} (hf : FAg f l) {r : ResultVar} {q : LRes} {rs : List ResultVar} {qs : List LRes} (h : tW P (r :: rs) (q :: qs)) {v : Value} (hv : (a3V H f q).Is v H1) : H1 = H ∧ a0R P l H r = some v ∧ tW P rs qs := by
 obtain ⟨h, hr⟩ := h
 cases r with
 | tmp t => cases q with
   | t p =>
     have h : p = kQ t := h
     subst h
     have hv : (oG (nQ (kQ t) f) fun v => Rs.ok v H).Is v H1 := hv
     rw [mP] at hv
     obtain ⟨rfl, rfl⟩ := Rs.aN hv
     exact ⟨rfl, by rw [hf t]; rfl, hr⟩
   | c1 p => exact h.elim
   | cn n p => exact h.elim
 | cell a t => cases q with
   | t p => exact h.elim
   | c1 p =>
     obtain ⟨rfl, ha⟩ := h
     obtain ⟨e, h1⟩ := a9Y (P := P) (X := .t (kQ a)) (w := get l a) ha (hf a) hv
     exact ⟨e, h1, hr⟩
   | cn n p =>
     obtain ⟨rfl, ha, hn⟩ := h
     obtain ⟨e, h1⟩ := b0y (P := P) (X := .t (kQ a)) (w := get l a) ha hn (hf a) hv
     exact ⟨e, h1, hr⟩
theorem b6R {H : Heap} {f : Fr} {q : LRes} {v : Value} {H1 : Heap} : ¬ (a3V H f q = .th v H1) := by
 intro h
 cases q with
 | t p =>
   have h : (oG (nQ p f) fun v => Rs.ok v H) = .th v H1 := h
   rw [mP] at h; cases h
 | c1 p =>
   have h : b2z (.t p) f H = .th v H1 := h
   unfold b2z at h
   split at h
   ·unfold b7Z at h
    split at h
    ·rw [kG, kG, kG] at h
     split at h
     ·split at h
      ·split at h
       ·rename_i cs _ _ _ _ _ _ _ _
        cases hn : a0F cs _ with
        | none => rw [hn] at h; cases h
        | some w => rw [hn] at h; have h : (oG w fun v => Rs.ok v H) = .th v H1 := h; rw [mP] at h; cases h
       ·cases h
      ·cases h
     ·cases h
    ·cases h
   ·unfold c0X at h
    split at h
    ·rw [kG] at h
     split at h
     ·rename_i cs _ _ _ _
      cases hn : a0F cs _ with
      | none => rw [hn] at h; cases h
      | some w => rw [hn] at h; have h : (oG w fun v => Rs.ok v H) = .th v H1 := h; rw [mP] at h; cases h
     ·cases h
    ·cases h
   ·cases h
 | cn n p =>
   have hh : b2m n (.t p) f H = .th v H1 := h
   unfold b2m at hh
   split at hh
   ·unfold b8k at hh
    split at hh
    ·rw [kG, kG, kG] at hh
     split at hh
     ·split at hh
      ·split at hh
       ·have key : ∀ {cs : List Value} {n : Nat} {pre : List Value}, ¬ (a1r cs n fun l => Rs.ok (.agg ⟨pre ++ l⟩) H) = .th v H1 := by
         intro cs
         induction cs with
         | nil => intro n pre h; cases n <;> cases h
         | cons c cs ih =>
           intro n pre h
           cases n with
           | zero => cases h
           | succ n =>
             have h : (a1r cs n fun l => Rs.ok (.agg ⟨pre ++ (c :: l)⟩) H) = .th v H1 := h
             have e : ∀ l : List Value, pre ++ (c :: l) = (pre ++ [c]) ++ l := by intro l; simp
             have h2 : (a1r cs n fun l => Rs.ok (.agg ⟨(pre ++ [c]) ++ l⟩) H) = .th v H1 := by
              rw [← h]; congr 1; funext l; rw [e l]
             exact ih h2
        exact key (pre := []) hh
       ·cases hh
      ·cases hh
     ·cases hh
    ·cases hh
   ·cases hh
theorem a5C {H H1 : Heap} {f : Fr} {l : List Value} (hf : FAg f l) {v : Value} : ∀ {rs : List ResultVar} {qs : List LRes} {K : List Value → Rs}, tW P rs qs → (b4c H f qs K).Is v H1 → ∃ vs, nB P l H rs = some vs ∧ (K vs).Is v H1
 | [], [], K, _, h => ⟨[], rfl, h⟩
 | [], _ :: _, _, h, _ => h.elim
 | _ :: _, [], _, h, _ => h.elim
 | r :: rs, q :: qs, K, hl, h => by
   have h : (Rs.rec (motive := fun _ => Rs) .no (fun v _ => b4c H f qs fun l => K (v :: l)) (fun _ _ => .no) (a3V H f q)).Is v H1 := h
   cases hq : a3V H f q with
   | no => rw [hq] at h; exact absurd h Rs.ar
   | th w H2 => exact absurd hq b6R
   | ok w H2 =>
     rw [hq] at h
     obtain ⟨e, h1, h2⟩ := b0i hf hl (.inl hq)
     obtain ⟨vs, h3, h4⟩ := a5C hf h2 h
     exact ⟨w :: vs, by simp [nB, h1, h3], h4⟩
theorem b5f {fn : Func} {H H1 : Heap} {f : Fr} {l : List Value} (hf : FAg f l) {qs : List LRes} (hl : tW P fn.results.toList qs) {v : Value} (h : (a6y qs f H).Is v H1) : H1 = H ∧ iB P fn l H = some v := by
 unfold a6y at h
 split at h
 ·rename_i q
  cases hr : fn.results.toList with
  | nil => rw [hr] at hl; exact hl.elim
  | cons r rs =>
    rw [hr] at hl
    obtain ⟨e, h1, h2⟩ := b0i hf hl h
    cases rs with
    | cons _ _ => exact h2.elim
    | nil => exact ⟨e, by simp [iB, hr, nB, h1]⟩
 ·rename_i hne
  obtain ⟨vs, h1, h2⟩ := a5C hf hl h
  obtain ⟨h3, h4⟩ := lC h2
  obtain ⟨rfl, rfl⟩ := Rs.aN h4
  refine ⟨rfl, ?_⟩
  have hlen : ∀ {rs : List ResultVar} {qs : List LRes}, tW P rs qs → rs.length = qs.length := by
   intro rs
   induction rs with
   | nil => intro qs h; cases qs with | nil => rfl | cons => exact h.elim
   | cons r rs ih => intro qs h; cases qs with | nil => exact h.elim | cons q qs => simp [ih h.2]
  have hvl : ∀ {rs : List ResultVar} {vs : List Value}, nB P l H1 rs = some vs → vs.length = rs.length := by
   intro rs
   induction rs with
   | nil => intro vs h; injection h with h; subst h; rfl
   | cons r rs ih =>
     intro vs h
     simp only [nB, cZ, dj] at h
     obtain ⟨w, _, ws, h1, h2⟩ := h
     subst h2
     simp [ih h1]
  have hn1 : vs.length ≠ 1 := by
   rw [hvl h1, hlen hl]
   intro h1
   match qs, h1 with
   | [q], _ => exact hne q rfl
  unfold iB
  rw [h1, cY]
  rw [b0C] at h3
  have h3 : vs.all jG = true := by rw [← h3]; congr 1
  split
  ·exact absurd rfl hn1
  ·rw [if_pos h3]
structure FuncOk (P : Program) (f : FuncId) (g : LFunc) : Prop where
 ex : ∃ fn c, P.funcs[f]? = some fn ∧ fn.body = some c ∧ (fn.name == "runtime.NumGoroutine") = false ∧ g.ps = (List.range fn.ntmps).map kQ ∧ Low P fn.ntmps c g.body ∧ tW P fn.results.toList g.res
def TOk (P : Program) (T : LT) : Prop := ∀ f g, a1M (kQ f) T = some g → FuncOk P f g
def EOk (P : Program) (E : List LEnv) (H : Heap) : Prop := ∀ en ∈ E, en.L < H.length ∧ ∀ r, iL H en.L = some (.loop r) →
 ∃ k, en.ps = (List.range k).map kQ ∧ r.tmps.size = k ∧ en.pp = r.params.toList.map kQ ∧ (∀ t ∈ r.params.toList, t < k) ∧ Low P k r.assign en.a ∧ Low P k r.body en.b
theorem EOk.ab {E : List LEnv} {H H' : Heap} (h : EOk P E H) (hk : LK H H') : EOk P E H' := fun en hen => by
 obtain ⟨h1, h2⟩ := h en hen
 refine ⟨dM h1 hk.1, fun r' hr' => ?_⟩
 obtain ⟨r, hr, ea, eb, ep, et⟩ := hk.2 en.L r' h1 hr'
 obtain ⟨k, a, b, c, d, e, f⟩ := h2 r hr
 exact ⟨k, a, by rw [et]; exact b, by rw [ep]; exact c, by rw [ep]; exact d, by rw [ea]; exact e, by rw [eb]; exact f⟩
def a3g (P : Program) (ih : pZ) : Prop := ∀ (E : List LEnv) (C : LCode) (k : Nat) (c : Code) (f : Fr) (l : List Value) (H : Heap) (e : Ex) (f1 : Fr) (H1 : Heap), Low P k c C → FRel k f l → EOk P E H → ih E C f H = .ok e f1 H1 →
 ∃ l1, FRel k f1 l1 ∧ Sim P c l H e l1 H1 ∧ LK H H1 ∧ ∀ b, c = .loop b → ∃ n, Rounds P b n l H e l1 H1
theorem a0a {α : Type} {no : α} : ∀ {l : List Value} {i m : Nat} {f : Fr} {K : Fr → α}, (oW no l ((List.range' i m).map kQ) f K = no) ∨ (l.length ≤ m ∧ ∃ f', oW no l ((List.range' i m).map kQ) f K = K f' ∧ ∀ t, nQ (kQ t) f' = if i ≤ t ∧ t < i + l.length then get l (t - i) else nQ (kQ t) f)
 | [], i, m, f, K => .inr ⟨eO _, f, rfl, fun t => by rw [if_neg (by simp only [eA]; omega)]⟩
 | v :: l, i, 0, f, K => .inl rfl
 | v :: l, i, m + 1, f, K => by
   have e : oW no (v :: l) ((List.range' i (m + 1)).map kQ) f K = pP v (kQ i) f fun f => oW no l ((List.range' (i + 1) m).map kQ) f K := by
    rw [gx]; rfl
   rw [e, rY]
   rcases a0a (l := l) (i := i + 1) (m := m) (f := b4o f i v) (K := K) with h | ⟨h1, f', h2, h3⟩
   ·exact .inl h
   ·refine .inr ⟨by simp; omega, f', h2, fun t => ?_⟩
    rw [h3 t, a3N]
    by_cases ht : t = i
    ·subst ht
     rw [if_neg (by omega), if_pos rfl, if_pos (by simp), gA]; rfl
    ·rw [if_neg ht]
     by_cases h4 : i + 1 ≤ t ∧ t < i + 1 + l.length
     ·rw [if_pos h4, if_pos (by simp; omega)]
      rw [show t - i = (t - (i + 1)) + 1 by omega]; rfl
     ·rw [if_neg h4, if_neg (by simp; omega)]
theorem vH {α : Type} {no : α} {k : Nat} : ∀ {args : List Value} {ps : List Tmp} {f : Fr} {l : List Value} {K : Fr → α}, FRel k f l → (∀ t ∈ ps, t < k) → args.length = ps.length →
 ∃ f', oW no args (ps.map kQ) f K = K f' ∧ FRel k f' ((ps.zip args).foldl (fun t (p, v) => t.set p v) l)
 | [], [], f, l, K, hf, _, _ => ⟨f, rfl, hf⟩
 | v :: args, p :: ps, f, l, K, hf, hp, he => by
   have e : oW no (v :: args) ((p :: ps).map kQ) f K = pP v (kQ p) f fun f => oW no args (ps.map kQ) f K := rfl
   rw [e, rY]
   exact vH (hf.set (hp p (by simp)) v) (fun t ht => hp t (by simp [ht])) (by simpa using he)
 | [], _ :: _, _, _, _, _, _, he => by simp at he
 | _ :: _, [], _, _, _, _, _, he => by simp at he
theorem yX (l : List Value) (n t : Nat) : get (l ++ List.replicate n undef) t = get l t := by
 rw [nX, nX]
 simp only [dc]
 by_cases h : t < l.length
 ·rw [eC h]
 ·rw [dU (by omega), dZ (l := l) (by omega), gP]
  split <;> rfl
theorem a0e {T : LT} (hT : TOk P T) {ih : pZ} (hih : a3g P ih) {E : List LEnv} {p : Pth} {f : FuncId} {args : List Value} {H H1 : Heap} {v : Value} (hE : EOk P E H) (hp : p = kQ f) (h : (oE T ih E p args H).Is v H1) :
 FnS P f args H (fun v' H' => v' = v ∧ H' = H1) ∧ LK H H1 := by
 unfold oE at h
 split at h
 case h_2 => exact absurd h Rs.ar
 rename_i g hg
 subst hp
 obtain ⟨fn, c, hfn, hb, hn, hps, hlow, hres⟩ := (hT f g hg).ex
 rw [hps] at h
 rw [fG] at h
 rcases a0a (no := Rs.no) (l := args) (i := 0) (m := fn.ntmps) (f := .e) (K := fun f => c0F g.res (ih E g.body f H)) with h1 | ⟨h1, f0, h2, h3⟩
 ·rw [h1] at h; exact absurd h Rs.ar
 ·rw [h2] at h
  have hf0 : FRel fn.ntmps f0 (args ++ List.replicate (fn.ntmps - args.length) undef) := by
   refine ⟨by simp; omega, fun t => ?_⟩
   rw [h3 t, yX]
   by_cases ht : t < args.length
   ·rw [if_pos (by omega)]; rfl
   ·rw [if_neg (by omega), tQ, nX, dc, dZ (by omega)]; try rfl
  cases hr : ih E g.body f0 H with
  | no => rw [hr] at h; exact absurd h Rs.ar
  | ok e f1 H2 =>
    rw [hr] at h
    obtain ⟨l1, hf1, hs, hk, _⟩ := hih E g.body fn.ntmps c f0 _ H e f1 H2 hlow hf0 hE hr
    have key : (e = .normal ∨ e = .ret) → (a6y g.res f1 H2).Is v H1 → FnS P f args H (fun v' H' => v' = v ∧ H' = H1) ∧ LK H H1 := by
     intro he hv
     obtain ⟨rfl, hv⟩ := b5f hf1.2 hres hv
     exact ⟨⟨fn, c, e, l1, H1, v, hfn, hb, hn, hs, he, hv, rfl, rfl⟩, hk⟩
    cases e with
    | normal => exact key (.inl rfl) h
    | ret => exact key (.inr rfl) h
    | exit id => exact absurd h Rs.ar
theorem b4T {T : LT} (hT : TOk P T) {ih : pZ} (hih : a3g P ih) {E : List LEnv} {p : Pth} {f : FuncId} {args : List Value} {H H1 : Heap} {v : Value} (hE : EOk P E H) (hp : p = kQ f) (h : (b4s P T ih E p f args H).Is v H1) :
 (FnS P f args H (fun v' H' => v' = v ∧ H' = H1) ∨ pV P f args H = some (v, H1)) ∧ LK H H1 := by
 unfold b4s at h
 cases hg : a1M p T with
 | some g =>
   rw [hg] at h
   obtain ⟨a, b⟩ := a0e (H1 := H1) (v := v) hT hih hE hp (by unfold oE; rw [hg]; exact h)
   exact ⟨.inl a, b⟩
 | none =>
   rw [hg] at h
   have h : (c0r P f args H).Is v H1 := h
   unfold c0r at h
   split at h
   ·rename_i v2 H2 hx
    obtain ⟨rfl, rfl⟩ := Rs.aR h
    exact ⟨.inr hx, a4G hx⟩
   ·exact absurd h Rs.ar
theorem a9u {E : List LEnv} {L : Nat} {en : LEnv} (h : b4H E L = some en) : en ∈ E ∧ en.L = L := by
 induction E with
 | nil => cases h
 | cons e E ih =>
   have h : nN (Nat.beq e.L L) (b4H E L) (some e) = some en := h
   rw [kG] at h
   split at h
   ·rename_i hh
    injection h with h
    subst h
    exact ⟨by simp, dQ hh⟩
   ·obtain ⟨h1, h2⟩ := ih h
    exact ⟨eK _ h1, h2⟩
theorem a5p (e : Ex) : b8M e = rB e := by cases e <;> rfl
theorem b1n {ih : pZ} (hih : a3g P ih) {E : List LEnv} {L : Nat} {args : List Value} {H H1 : Heap} {v : Value} (hE : EOk P E H) (h : (a8S ih E L args H).Is v H1) : xW P L args H v H1 ∧ LK H H1 := by
 unfold a8S at h
 split at h
 case h_2 => exact absurd h Rs.ar
 rename_i en hen
 obtain ⟨hmem, rfl⟩ := a9u hen
 split at h
 case h_2 => exact absurd h Rs.ar
 rename_i p fn tmps ps a b d hg
 obtain ⟨hlen, h⟩ := lC h
 rw [xJ] at hlen
 have hlen : ps.size = args.length := by simpa only [decide_eq_true_eq] using hlen
 obtain ⟨k, hps, hsz, hpp, hpk, hla, hlb⟩ := (hE en hmem).2 _ hg
 have hsz : tmps.length = k := by simpa using hsz
 rw [hps, fG] at h
 rcases a0a (no := Rs.no) (l := tmps) (i := 0) (m := k) (f := .e) (K := fun f => oW .no args en.pp f fun f => sH ih E en (ih E en.a f H)) with h1 | ⟨h1, f0, h2, h3⟩
 ·rw [h1] at h; exact absurd h Rs.ar
 rw [h2] at h
 have hf0 : FRel k f0 tmps := by
  refine ⟨hsz, fun t => ?_⟩
  rw [h3 t]
  by_cases ht : t < tmps.length
  ·rw [if_pos (by omega)]; rfl
  ·rw [if_neg (by omega), tQ, nX, dc, dZ (by omega)]; try rfl
 rw [hpp] at h
 obtain ⟨f2, h4, hf2⟩ := vH (no := Rs.no) (args := args) (ps := ps.toList) (K := fun f => sH ih E en (ih E en.a f H)) hf0 hpk (by simpa using hlen.symm)
 have h : (oW Rs.no args (List.map kQ ps.toList) f0 fun f => sH ih E en (ih E en.a f H)).Is v H1 := h
 rw [h4] at h
 cases hr1 : ih E en.a f2 H with
 | no => rw [hr1] at h; exact absurd h Rs.ar
 | ok e f3 H2 =>
   rw [hr1] at h
   obtain ⟨l3, hf3, hs1, hk1, _⟩ := hih E en.a k a f2 _ H e f3 H2 hla hf2 hE hr1
   cases e with
   | ret => exact absurd h Rs.ar
   | exit id => exact absurd h Rs.ar
   | normal =>
     have h : (zK ih E en f3 H2).Is v H1 := h
     unfold zK at h
     split at h
     case h_2 => exact absurd h Rs.ar
     rename_i p2 fn2 tmps2 ps2 a2 b2 d2 hg2
     rw [lW] at h
     obtain ⟨r0, hr0, ea, eb, ep, et⟩ := hk1.2 en.L _ (hE en hmem).1 hg2
     rw [hg] at hr0
     injection hr0 with hr0
     injection hr0 with hr0
     subst hr0
     have ea' : a2 = a := ea
     have eb' : b2 = b := eb
     have ep' : ps2 = ps := ep
     have et' : tmps2 = ⟨tmps⟩ := et
     clear ea eb ep et
     subst ea' eb' ep' et'
     have hk2 : LK H2 (hset H2 en.L (.loop ⟨.busy, p2, fn2, ⟨tmps⟩, ps2, a2, b2, d2⟩)) := .loop hg2 ⟨rfl, rfl, rfl, rfl⟩
     cases hr2 : ih E en.b f3 (hset H2 en.L (.loop ⟨.busy, p2, fn2, ⟨tmps⟩, ps2, a2, b2, d2⟩)) with
     | no => rw [hr2] at h; exact absurd h Rs.ar
     | ok e f4 H3 =>
       rw [hr2] at h
       obtain ⟨l4, _, hs2, hk3, _⟩ := hih E en.b k b2 f3 _ _ e f4 H3 hlb hf3 (hE.ab (hk1.trans hk2)) hr2
       have h : (a2b en.L e H3).Is v H1 := h
       unfold a2b at h
       split at h
       case h_2 => exact absurd h Rs.ar
       rename_i st3 p3 fn3 tmps3 ps3 a3 b3 d3 hg3
       have fin : ∀ r', H1 = hset H3 en.L (.loop r') → (r' = { (⟨st3, p3, fn3, tmps3, ps3, a3, b3, d3⟩ : Loop) with state := if (rB e).isNone then .ready else .done, pending := rB e }) → v = .bool (rB e).isNone → xW P en.L args H v H1 ∧ LK H H1 := by
        intro r' hH hr' hv
        refine ⟨?_, hk1.trans (hk2.trans (hk3.trans (by rw [hH]; exact .loop hg3 (by rw [hr']; exact ⟨rfl, rfl, rfl, rfl⟩))))⟩
        have hW := mO (P := P) (args := args) (K := fun v' H' => v' = v ∧ H' = H1) hg hlen rfl
         ⟨.normal, l3, H2, hs1, rfl, _, hg2, rfl, e, l4, H3, hs2, _, hg3, hv.symm, by rw [hH, hr']⟩
        obtain ⟨v', H', h1, rfl, rfl⟩ := hW
        exact h1
       split at h
       ·rename_i hj
        obtain ⟨rfl, rfl⟩ := Rs.aR h
        rw [a5p] at hj
        exact fin _ rfl (by rw [hj]; rfl) (by rw [hj]; rfl)
       ·rename_i c hj
        obtain ⟨rfl, rfl⟩ := Rs.aR h
        rw [a5p] at hj
        exact fin _ rfl (by rw [hj]; rfl) (by rw [hj]; rfl)
theorem a2V {T : LT} (hT : TOk P T) {ih : pZ} (hih : a3g P ih) {E : List LEnv} {H0 : Heap} (hE : EOk P E H0) : CallsOk P (zZ P T ih E) H0 where
 fn p f args H v H1 hk h hp := b4T hT hih (hE.ab hk) hp h
 rd L args H v H1 hk h := b1n hih (hE.ab hk) h
theorem c0d {α : Type} {f : Fr} {l : List Value} (hf : FAg f l) (i m : Nat) (K : List Value → α) : frL f ((List.range' i m).map kQ) K = K ((List.range' i m).map (get l)) := by
 induction m generalizing i K with
 | zero => rfl
 | succ m ih =>
   have e : frL f ((List.range' i (m + 1)).map kQ) K = oG (nQ (kQ i) f) fun v => frL f ((List.range' (i + 1) m).map kQ) fun l => K (v :: l) := by
    rw [gx]; rfl
   rw [e, mP, ih, hf i, gx]; rfl
theorem b8G {α : Type} {k : Nat} {f : Fr} {l : List Value} (hf : FRel k f l) (K : List Value → α) : frL f ((List.range k).map kQ) K = K l := by
 rw [fG, c0d hf.2, ← fG]
 congr 1
 apply gn
 intro i
 rw [ec]
 by_cases hi : i < k
 ·rw [List.getElem?_range hi, dN, nX, dc]
  have : i < l.length := by rw [hf.1]; exact hi
  simp [du this]
 ·rw [dZ (by simp; omega), dZ (by rw [hf.1]; omega)]; rfl
theorem b1E {T : LT} (hT : TOk P T) {ih : pZ} (hih : a3g P ih) {E : List LEnv} {k : Nat} {g : Operand} {ps : Array Tmp} {assign body : Code} {A B : LCode} (hg : iR g = true) (hps : ∀ t ∈ ps.toList, t < k) (ha : Low P k assign A) (hb : Low P k body B)
 {x1 x2 : Fr → Heap → Rc} {f : Fr} {l : List Value} {H : Heap} {e : Ex} {f1 : Fr} {H1 : Heap} (hf : FRel k f l) (hE : EOk P E H) (h : a7D T ih E (iV g) ((List.range k).map kQ) (ps.toList.map kQ) ps assign body A B x1 x2 f H = .ok e f1 H1) :
 f1 = f ∧ Sim P (.rangeFunc g ps assign body) l H e l H1 ∧ LK H H1 := by
 unfold a7D at h
 rw [jO hf.2] at h
 split at h
 case h_2 => cases h
 rename_i j xa xb hgv
 rw [jS, b8G hf, lW, jS] at h
 unfold b0s at h
 rw [lK] at h
 generalize hH0 : H.cons (.loop ⟨.ready, none, 0, ⟨l⟩, ps, assign, body, 0⟩) = H0 at h
 have hl0 : (⟨.ready, none, 0, ⟨l⟩, ps, assign, body, 0⟩ : Loop) = a9L l ps assign body := rfl
 have hE0 : EOk P (⟨H.length, (List.range k).map kQ, ps.toList.map kQ, A, B⟩ :: E) H0 := by
  intro en hen
  rcases ek.1 hen with rfl | hen
  ·refine ⟨by rw [← hH0, length_cons]; exact Nat.lt_succ_self _, fun r hr => ?_⟩
   rw [← hH0, iN] at hr
   injection hr with hr
   injection hr with hr
   subst hr
   exact ⟨k, rfl, by simpa using hf.1, rfl, hps, ha, hb⟩
  ·exact (hE.ab (by rw [← hH0]; exact .cons _ _)) en hen
 have key : ∀ v H2, (oE T ih (⟨H.length, (List.range k).map kQ, ps.toList.map kQ, A, B⟩ :: E) (kQ j) (a3X xa (.func (.yield H.length) #[] #[] :: xb)) H0).Is v H2 → tI H.length f H2 = .ok e f1 H1 → f1 = f ∧ Sim P (.rangeFunc g ps assign body) l H e l H1 ∧ LK H H1 := by
  intro v H2 hc hr
  obtain ⟨hfn, hk⟩ := a0e hT hih hE0 rfl hc
  have hargs : a3X xa (.func (.yield H.length) #[] #[] :: xb) = xa ++ [.func (.yield H.length) #[] #[]] ++ xb := by rw [wR]; simp
  rw [hargs, ← hH0, hl0] at hfn
  have fin : ∀ (r : Loop) (H3 : Heap), iL H2 H.length = some (.loop r) → r.state ≠ .busy → H3 = hset H2 H.length (.loop { r with state := .exhausted }) → (r.pending = none → e = .normal) → (∀ c, r.pending = some c → (c = .ret ∧ e = .ret) ∨ ∃ id, c = .exit id ∧ e = .exit id) → f1 = f → H1 = H3 →
   f1 = f ∧ Sim P (.rangeFunc g ps assign body) l H e l H1 ∧ LK H H1 := by
   intro r H3 hrl hnb hH3 hp0 hp1 he1 he2
   have hw : Wp P (.rangeFunc g ps assign body) l H (fun e' l' H' => e' = e ∧ l' = l ∧ H' = H3) := by
    refine Wp.range (first := xa) (captured := xb) hg (by rw [hgv]) (hfn.mono ?_)
    rintro v' H' ⟨rfl, rfl⟩
    refine ⟨r, hrl, hnb, fun hp => ⟨(hp0 hp).symm, rfl, hH3.symm⟩, fun c hc => ?_⟩
    rcases hp1 c hc with ⟨rfl, he⟩ | ⟨id, rfl, he⟩
    ·exact Wp.ret ⟨he.symm, rfl, hH3.symm⟩
    ·exact Wp.exit ⟨he.symm, rfl, hH3.symm⟩
   obtain ⟨e', l', H', hs, rfl, rfl, rfl⟩ := hw
   refine ⟨he1, by rw [he2]; exact hs, ?_⟩
   rw [he2, hH3]
   have h1 : LK H H0 := by rw [← hH0]; exact .cons _ _
   exact h1.trans (hk.trans (.loop hrl ⟨rfl, rfl, rfl, rfl⟩))
  unfold tI at hr
  split at hr
  ·rename_i hg2
   rw [lW] at hr
   injection hr with h1 h2 h3
   exact fin _ _ hg2 (by simp) rfl (fun _ => h1.symm) (fun c hc => by cases hc) h2.symm h3.symm
  ·rename_i hg2
   rw [lW] at hr
   injection hr with h1 h2 h3
   exact fin _ _ hg2 (by simp) rfl (fun _ => h1.symm) (fun c hc => by cases hc) h2.symm h3.symm
  ·rename_i hg2
   rw [lW] at hr
   injection hr with h1 h2 h3
   exact fin _ _ hg2 (by simp) rfl (fun hc => by cases hc) (fun c hc => by injection hc with hc; subst hc; exact .inl ⟨rfl, h1.symm⟩) h2.symm h3.symm
  ·rename_i hg2
   rw [lW] at hr
   injection hr with h1 h2 h3
   exact fin _ _ hg2 (by simp) rfl (fun hc => by cases hc) (fun c hc => by injection hc with hc; subst hc; exact .inr ⟨_, rfl, h1.symm⟩) h2.symm h3.symm
  ·cases hr
 cases hc : oE T ih (⟨H.length, (List.range k).map kQ, ps.toList.map kQ, A, B⟩ :: E) (kQ j) (a3X xa (.func (.yield H.length) #[] #[] :: xb)) H0 with
 | no => rw [hc] at h; cases h
 | ok v H2 => rw [hc] at h; exact key v H2 (.inl hc) h
 | th v H2 =>
   rw [hc] at h
   have h : nH H2 (fun H => tI _ f H) = .ok e f1 H1 := h
   rw [lW] at h
   exact key v H2 (.inr hc) h
theorem c0s (kC : P.follows .mixedOrders = true) {T : LT} (hT : TOk P T) : ∀ n, a3g P (exF P T n) := by
 intro n
 induction n with
 | zero => intro E C k c f l H e f1 H1 _ _ _ h; cases h
 | succ n ih =>
   intro E C k c f l H e f1 H1 hlow hf hE h
   have h : b0c P T (exF P T n) E C f H = .ok e f1 H1 := h
   have noloop : ∀ {c : Code}, (∀ b, c ≠ .loop b) → ∀ {l1 : List Value}, ∀ b, c = .loop b → ∃ n, Rounds P b n l H e l1 H1 := fun hne _ b hb => absurd hb (hne b)
   cases hlow with
   | bad => cases h
   | skip =>
     injection h with h1 h2 h3; subst h1 h2 h3
     exact ⟨l, hf, .skip l H, .refl H, noloop (by intro b h; cases h)⟩
   | label t =>
     injection h with h1 h2 h3; subst h1 h2 h3
     exact ⟨l, hf, .label t l H, .refl H, noloop (by intro b h; cases h)⟩
   | exit id =>
     injection h with h1 h2 h3; subst h1 h2 h3
     exact ⟨l, hf, .exit id l H, .refl H, noloop (by intro b h; cases h)⟩
   | ret =>
     injection h with h1 h2 h3; subst h1 h2 h3
     exact ⟨l, hf, .ret l H, .refl H, noloop (by intro b h; cases h)⟩
   | @reg id ops d lo hlo hd =>
     have h : c2J (xC P (zZ P T (exF P T n) E) lo f H) = .ok e f1 H1 := h
     cases hr : xC P (zZ P T (exF P T n) E) lo f H with
     | no => rw [hr] at h; cases h
     | ok f2 H2 =>
       rw [hr] at h
       injection h with h1 h2 h3; subst h1 h2 h3
       obtain ⟨l1, hf1, hops, hk⟩ := b8I (a2V hT ih hE) hlo (i := 0) rfl hf (.refl H) hr
       have hops : OpsR P ops (List.range ops.size) l H l1 H2 := by rw [fG]; simpa using hops
       refine ⟨l1, hf1, ?_, hk, noloop (by intro b h; cases h)⟩
       cases d with
       | false => exact .region hops
       | true => exact .bX kC (hd rfl) hops
   | drw hlo ht hl =>
     obtain ⟨l1, rfl, hf1, hs, hk⟩ := b7P kC (a2V hT ih hE) hlo ht hl hf h
     exact ⟨l1, hf1, hs, hk, noloop (by intro b h; cases h)⟩
   | @seq a b A B ha hb =>
     have h : b7s (exF P T n) E B (exF P T n E A f H) = .ok e f1 H1 := h
     cases hr : exF P T n E A f H with
     | no => rw [hr] at h; cases h
     | ok e2 f2 H2 =>
       rw [hr] at h
       obtain ⟨l2, hf2, hs, hk, _⟩ := ih E A k a f l H e2 f2 H2 ha hf hE hr
       cases e2 with
       | normal =>
         obtain ⟨l1, hf1, hs1, hk1, _⟩ := ih E B k b f2 l2 H2 e f1 H1 hb hf2 (hE.ab hk) h
         exact ⟨l1, hf1, .seq hs hs1, hk.trans hk1, noloop (by intro b h; cases h)⟩
       | ret =>
         injection h with h1 h2 h3; subst h1 h2 h3
         exact ⟨l2, hf2, .seq' hs (by intro h; cases h), hk, noloop (by intro b h; cases h)⟩
       | exit id =>
         injection h with h1 h2 h3; subst h1 h2 h3
         exact ⟨l2, hf2, .seq' hs (by intro h; cases h), hk, noloop (by intro b h; cases h)⟩
   | @cond c x y X Y hc hx hy =>
     have h : b3n (exF P T n) E (iV c) X Y (b0c P T (exF P T n) E X) (b0c P T (exF P T n) E Y) f H = .ok e f1 H1 := h
     unfold b3n at h
     rw [jO hf.2] at h
     split at h
     ·rename_i t ht
      cases t with
      | true =>
        obtain ⟨l1, hf1, hs, hk, _⟩ := ih E X k x f l H e f1 H1 hx hf hE h
        exact ⟨l1, hf1, .cond ht hc hs, hk, noloop (by intro b h; cases h)⟩
      | false =>
        obtain ⟨l1, hf1, hs, hk, _⟩ := ih E Y k y f l H e f1 H1 hy hf hE h
        exact ⟨l1, hf1, .cond ht hc hs, hk, noloop (by intro b h; cases h)⟩
     ·cases h
   | @block id b B hb =>
     have h : c1Z id (exF P T n E B f H) = .ok e f1 H1 := h
     cases hr : exF P T n E B f H with
     | no => rw [hr] at h; cases h
     | ok e2 f2 H2 =>
       rw [hr] at h
       obtain ⟨l2, hf2, hs, hk, _⟩ := ih E B k b f l H e2 f2 H2 hb hf hE hr
       have hs' : Sim P (.block id b) l H (e2.out id) l2 H2 := .block hs
       cases e2 with
       | normal => injection h with h1 h2 h3; subst h1 h2 h3; exact ⟨l2, hf2, hs', hk, noloop (by intro b h; cases h)⟩
       | ret => injection h with h1 h2 h3; subst h1 h2 h3; exact ⟨l2, hf2, hs', hk, noloop (by intro b h; cases h)⟩
       | exit i =>
         have h : Rc.ok (Bool.rec (motive := fun _ => Ex) (.exit i) .normal (Nat.beq i id)) f2 H2 = .ok e f1 H1 := h
         injection h with h1 h2 h3; subst h2 h3
         have : (Ex.exit i).out id = e := by
          rw [← h1]
          by_cases hi : i = id
          ·subst hi; simp [Ex.out]
          ·have : Nat.beq i id = false := fQ.2 fun e => hi (dQ e)
           simp [Ex.out, hi, this]
         rw [this] at hs'
         exact ⟨l2, hf2, hs', hk, noloop (by intro b h; cases h)⟩
   | @loop b B hb =>
     have h : b7s (exF P T n) E (.loop B) (exF P T n E B f H) = .ok e f1 H1 := h
     cases hr : exF P T n E B f H with
     | no => rw [hr] at h; cases h
     | ok e2 f2 H2 =>
       rw [hr] at h
       obtain ⟨l2, hf2, hs, hk, _⟩ := ih E B k b f l H e2 f2 H2 hb hf hE hr
       have last : e2 ≠ .normal → e2 = e → f2 = f1 → H2 = H1 → ∃ l1, FRel k f1 l1 ∧ Sim P (.loop b) l H e l1 H1 ∧ LK H H1 ∧ ∀ b', Code.loop b = .loop b' → ∃ n, Rounds P b' n l H e l1 H1 := by
        intro hne h1 h2 h3
        subst h1 h2 h3
        have hr : Rounds P b 1 l H e2 l2 H2 := .last hs hne
        exact ⟨l2, hf2, .loop hr, hk, fun b' hb' => by injection hb' with hb'; subst hb'; exact ⟨1, hr⟩⟩
       cases e2 with
       | normal =>
         obtain ⟨l1, hf1, hs1, hk1, hro⟩ := ih E (.loop B) k (.loop b) f2 l2 H2 e f1 H1 (.loop hb) hf2 (hE.ab hk) h
         obtain ⟨m, hm⟩ := hro b rfl
         have hr : Rounds P b (m + 1) l H e l1 H1 := .more hs hm
         exact ⟨l1, hf1, .loop hr, hk.trans hk1, fun b' hb' => by injection hb' with hb'; subst hb'; exact ⟨_, hr⟩⟩
       | ret => injection h with h1 h2 h3; exact last (by intro h; cases h) h1 h2 h3
       | exit id => injection h with h1 h2 h3; exact last (by intro h; cases h) h1 h2 h3
   | range hg hps ha hb =>
     obtain ⟨rfl, hs, hk⟩ := b1E (x1 := fun _ _ => .no) (x2 := fun _ _ => .no) hT ih hg hps ha hb hf hE h
     exact ⟨l, hf, hs, hk, noloop (by intro b h; cases h)⟩
theorem xO {α : Type} (v : LFunc) (p : Pth) (f : LT) (K : LT → α) : rN v p f K = K (rN v p f fun f => f) := by
 induction p generalizing f α with
 | z => cases f <;> rfl
 | l p ih =>
   cases f with
   | e =>
     show rN v p .e (fun l => K (.n none l .e)) = K (rN v p .e fun l => .n none l .e)
     rw [ih, ih (K := fun l => LT.n none l .e)]
   | n w l r =>
     show rN v p l (fun l => K (.n w l r)) = K (rN v p l fun l => .n w l r)
     rw [ih, ih (K := fun l => LT.n w l r)]
 | r p ih =>
   cases f with
   | e =>
     show rN v p .e (fun l => K (.n none .e l)) = K (rN v p .e fun l => .n none .e l)
     rw [ih, ih (K := fun l => LT.n none .e l)]
   | n w l r =>
     show rN v p r (fun r => K (.n w l r)) = K (rN v p r fun r => .n w l r)
     rw [ih, ih (K := fun r => LT.n w l r)]
theorem wJ (p : Pth) : a1M p .e = none := by cases p <;> rfl
theorem b0V (v : LFunc) (p q : Pth) (f : LT) {g : LFunc} (h : a1M q (rN v p f fun f => f) = some g) : (q = p ∧ g = v) ∨ a1M q f = some g := by
 induction p generalizing f q with
 | z =>
   cases q with
   | z => left; refine ⟨rfl, ?_⟩; cases f <;> (injection h with h; exact h.symm)
   | l q => right; cases f with
     | e => have h : a1M q .e = some g := h
            rw [wJ] at h; cases h
     | n => exact h
   | r q => right; cases f with
     | e => have h : a1M q .e = some g := h
            rw [wJ] at h; cases h
     | n => exact h
 | l p ih =>
   have h1 : ∀ f, rN v (.l p) f (fun f => f) = match f with | .e => .n none (rN v p .e fun f => f) .e | .n w l r => .n w (rN v p l fun f => f) r := fun f => by
    cases f with
    | e => exact xO v p .e fun l => LT.n none l .e
    | n w l r => exact xO v p l fun l => LT.n w l r
   rw [h1] at h
   cases q with
   | z => right; cases f with
     | e => exact h
     | n => exact h
   | r q => right; cases f with
     | e => have h : a1M q .e = some g := h
            rw [wJ] at h; cases h
     | n => exact h
   | l q =>
     cases f with
     | e =>
       rcases ih q .e h with ⟨rfl, hq⟩ | h
       ·exact .inl ⟨rfl, hq⟩
       ·rw [wJ] at h; cases h
     | n w l r =>
       rcases ih q l h with ⟨rfl, hq⟩ | h
       ·exact .inl ⟨rfl, hq⟩
       ·exact .inr h
 | r p ih =>
   have h1 : ∀ f, rN v (.r p) f (fun f => f) = match f with | .e => .n none .e (rN v p .e fun f => f) | .n w l r => .n w l (rN v p r fun f => f) := fun f => by
    cases f with
    | e => exact xO v p .e fun l => LT.n none .e l
    | n w l r => exact xO v p r fun r => LT.n w l r
   rw [h1] at h
   cases q with
   | z => right; cases f with
     | e => exact h
     | n => exact h
   | l q => right; cases f with
     | e => have h : a1M q .e = some g := h
            rw [wJ] at h; cases h
     | n => exact h
   | r q =>
     cases f with
     | e =>
       rcases ih q .e h with ⟨rfl, hq⟩ | h
       ·exact .inl ⟨rfl, hq⟩
       ·rw [wJ] at h; cases h
     | n w l r =>
       rcases ih q r h with ⟨rfl, hq⟩ | h
       ·exact .inl ⟨rfl, hq⟩
       ·exact .inr h
theorem b1i {α : Type} (f : FuncId) (no : α) (K : LFunc → α) : (∃ g, FuncOk P f g ∧ a2o P f no K = K g) ∨ a2o P f no K = no := by
 unfold a2o
 split
 ·rename_i fn hfn
  split
  ·rename_i c hb
   rw [kG]
   split
   ·exact .inr rfl
   ·rename_i hn
    rcases b3K (P := P) fn.results.toList (fun res => b2O fn.ntmps fun ps => mX P fn.ntmps c fun b => K ⟨ps, b, res⟩) no with ⟨res, hres, h1⟩ | h1
    ·rw [h1, a9M]
     obtain ⟨C, hC, h2⟩ := b1w (P := P) fn.ntmps c (fun b => K ⟨(List.range fn.ntmps).map kQ, b, res⟩)
     exact .inl ⟨⟨_, C, res⟩, ⟨fn, c, hfn, hb, by simpa using hn, rfl, hC, hres⟩, h2⟩
    ·exact .inr h1
  ·exact .inr rfl
 ·exact .inr rfl
theorem b3y {α : Type} (fs : List FuncId) (T : LT) (hT : TOk P T) (K : LT → α) : ∃ T', TOk P T' ∧ tO P fs T K = K T' := by
 induction fs generalizing T with
 | nil => exact ⟨T, hT, rfl⟩
 | cons f fs ih =>
   have e : tO P (f :: fs) T K = a2o P f (tO P fs T K) fun g => lO (kQ f) fun p => rN g p T fun T => tO P fs T K := rfl
   rw [e]
   rcases b1i (P := P) f (tO P fs T K) (fun g => lO (kQ f) fun p => rN g p T fun T => tO P fs T K) with ⟨g, hg, h⟩ | h
   ·rw [h, lK, xO]
    refine ih _ fun f' g' h' => ?_
    rcases b0V g (kQ f) (kQ f') T h' with ⟨he, rfl⟩ | h'
    ·rw [a9W he]; exact hg
    ·exact hT f' g' h'
   ·rw [h]; exact ih T hT
end Go.Ds
namespace Go.Ds
open Go.Proofs Go.Proofs.Tryz
def t64 : List Nat := [0, 1, 56, 2, 57, 49, 28, 3, 61, 58, 42, 50, 38, 29, 17, 4, 62, 47, 59, 36, 45, 43, 51, 22, 53, 39, 33, 30, 24, 18, 12, 5, 63, 55, 48, 27, 60, 41, 37, 16, 46, 35, 44, 21, 52, 32, 23, 11, 54, 26, 40, 15, 34, 20, 31, 10, 25, 14, 19, 9, 13, 8, 7, 6]
def t32 : List Nat := [0, 1, 28, 2, 29, 14, 24, 3, 30, 22, 20, 15, 25, 17, 4, 8, 31, 27, 13, 23, 21, 19, 16, 7, 26, 12, 18, 6, 11, 5, 10, 9]
noncomputable def gH : Heap := ((((((Heap.nil.cons (.cells (t64.map fun (n : Nat) => Value.int .u8 (.ofNat n)) 5 false 0 1)).cons (.cells [] 3 false 0 1)).cons (.cells [] 310 false 0 1)).cons (.cells [] 310 false 0 1)).cons (.cells ([1, 10, 100, 1000, 10000, 100000, 1000000, 10000000, 100000000, 1000000000, 10000000000, 100000000000, 1000000000000, 10000000000000, 100000000000000, 1000000000000000, 10000000000000000, 100000000000000000, 1000000000000000000, 10000000000000000000].map fun (n : Nat) => Value.int .u64 (.ofNat n)) 28 false 0 1)).cons (.cells (t32.map fun (n : Nat) => Value.int .u8 (.ofNat n)) 5 false 0 1))
theorem c3M : prog.follows .mixedOrders = true := by kernel_rfl
def b1p : Nat → Nat → List UInt8 → List UInt8
 | 0, _, acc => acc
 | f + 1, n, acc => if n < 10 then (48 + n).toUInt8 :: acc else b1p f (n / 10) ((48 + n % 10).toUInt8 :: acc)
def oZ (n : Nat) : ByteArray := ⟨(b1p 100 n []).toArray⟩
theorem a4u {b : ByteArray} {n : Nat} (h : b.data.toList = b1p 100 n []) : b = oZ n := by
 cases b with | mk d => cases d with | mk l => simp only at h; subst h; rfl
def b0e (r : Rs) (n : Nat) : Bool := match r with
 | .ok (.string b) _ => decide (b.data.toList = b1p 100 n [])
 | .th (.string b) _ => decide (b.data.toList = b1p 100 n [])
 | _ => false
def b6s (v : Value) (n : Nat) : Bool := match v with
 | .tuple vs => match vs.toList with
   | [.string b, .int .i64 m] => decide (m = 0) && decide (b.data.toList = b1p 100 n [])
   | _ => false
 | _ => false
def b4W (r : Rs) (n : Nat) : Bool := match r with
 | .ok v _ => b6s v n
 | .th v _ => b6s v n
 | _ => false
def b5x (r : Rs) (n : Int) : Bool := match r with
 | .ok (.int .i64 m) _ => decide (m = n)
 | .th (.int .i64 m) _ => decide (m = n)
 | _ => false
noncomputable def b9u (ps : List Nat) : Bool := tO prog [168, 150, 189, 206, 242, 256, 263, 264, 265, 266, 272, 273, 274, 275, 279] .e fun T => ps.all fun x => b0e (oE T (exF prog T 4000) [] (kQ 150) [.int .i64 x] gH) x
def fsP : List Nat := [168, 254, 238, 240, 186, 149, 189, 253, 268, 229, 230, 202, 203, 204, 205, 209, 267, 276, 235, 236, 237, 239, 241, 222, 243, 251, 252, 255, 247, 263, 264, 265, 266, 272, 273, 274, 275, 279]
noncomputable def uD (ps : List Nat) : Bool := tO prog fsP .e fun T => ps.all fun x => b4W (oE T (exF prog T 4000) [] (kQ 149) [.string (oZ x), .int .i64 24] gH) (x ^ 24)
def fsM : List Nat := [168, 254, 238, 240, 186, 150, 151, 189, 206, 253, 268, 229, 230, 202, 203, 204, 205, 207, 209, 242, 267, 276, 235, 236, 237, 239, 241, 222, 243, 256, 251, 252, 255, 247, 263, 264, 265, 266, 272, 273, 274, 275, 279]
noncomputable def lS (ps : List (Nat × Nat)) : Bool := tO prog fsM .e fun T => ps.all fun x => b0e (oE T (exF prog T 4000) [] (kQ 151) [.string (oZ x.1), .string (oZ x.2)] gH) (x.1 * x.2)
def rL (t : Nat × Nat) : List (Nat × Nat) := (t.1 ^ 24, 2) :: (List.range t.2).map fun k => (2 * t.1 ^ 24 * 4 ^ k, 4)
def a6E (t : Nat × Nat × Nat) : List (Nat × Nat) := (List.range (t.2.2 + 1)).map fun k => (t.1 ^ 24, 2 * t.2.1 ^ 24 * 4 ^ k)
def b3V (a b : Nat) : Int := if a < b then -1 else if b < a then 1 else 0
noncomputable def tE (ps : List (Nat × Nat)) : Bool := tO prog [152, 208, 209, 210, 222, 243, 244, 247, 257] .e fun T => ps.all fun x => b5x (oE T (exF prog T 4000) [] (kQ 152) [.string (oZ x.1), .string (oZ x.2)] gH) (b3V x.1 x.2)
end Go.Ds
namespace Go.Ds
open Go.RowKit Go.Proofs
section
variable {P : Program} {ρ : Rho} {H : Heap} {w : World}
theorem a3E {name : String} {g : Nat} {k : IntKind} {zs : List Int} (hg : P.globalNamed name = some g) (ht : Lib.TabIs P w name k zs) : ∃ t fr, w.heap[g]? = some (.cells (zs.map fun z => Value.int k z).toArray t fr) := by
 unfold Lib.TabIs World.var? at ht
 rw [hg, cY] at ht
 split at ht
 ·rename_i cs t fr hb
  obtain rfl := cX ht
  exact ⟨t, fr, hb⟩
 ·cases ht
theorem InW.cN (h : InW P ρ H w) {name : String} {g : Nat} {k : IntKind} {zs : List Int} {ty : TypeId} (hg : P.globalNamed name = some g) (ht : Lib.TabIs P w name k zs) (hgH : g = H.length) (hty : iC P ty = some 1) :
 InW P (ρ.put H.length (zs.map fun z => Value.int k z).length ⟨g, 0, zs.length, 1⟩) (H.cons (.cells (zs.map fun z => Value.int k z) ty false 0 1)) w := by
 obtain ⟨t, fr, hb⟩ := a3E hg ht
 refine (h.row ⟨g, 0, zs.length, 1⟩ hb (ty := ty) hty (by simp) (zs.map fun z => Value.int k z) 1 (fun _ => ⟨hgH, rfl⟩) (by simp) fun i c hi _ hc => ⟨c, ?_, ?_⟩).1
 ·have : (⟨g, 0, zs.length, 1⟩ : Place).at i = i := by simp [Place.at]
  rw [this]
  simpa using hc
 ·rw [ec] at hc
  obtain ⟨z, _, rfl⟩ := dj.1 hc
  exact .c0 (.flat rfl)
end
theorem c3T : ∀ A b, iL gH A = some b → ∃ cs ty lo, b = .cells cs ty false lo 1 ∧ kD cs = true := by
 intro A b h
 unfold gH at h
 have hn : ∀ (H : Heap) (c : Blk), iL (H.cons c) A = some b → (A = H.length ∧ b = c) ∨ iL H A = some b := fun H c h => by
  by_cases he : A = H.length
  ·subst he; rw [iN] at h; exact .inl ⟨rfl, (cX h).symm⟩
  ·have hA : A < (H.cons c).length := jC h
   rw [length_cons] at hA
   rw [jN _ (by omega)] at h
   exact .inr h
 rcases hn _ _ h with ⟨_, rfl⟩ | h
 ·exact ⟨_, _, _, rfl, by kernel_rfl⟩
 rcases hn _ _ h with ⟨_, rfl⟩ | h
 ·exact ⟨_, _, _, rfl, by kernel_rfl⟩
 rcases hn _ _ h with ⟨_, rfl⟩ | h
 ·exact ⟨_, _, _, rfl, by kernel_rfl⟩
 rcases hn _ _ h with ⟨_, rfl⟩ | h
 ·exact ⟨_, _, _, rfl, by kernel_rfl⟩
 rcases hn _ _ h with ⟨_, rfl⟩ | h
 ·exact ⟨_, _, _, rfl, by kernel_rfl⟩
 rcases hn _ _ h with ⟨_, rfl⟩ | h
 ·exact ⟨_, _, _, rfl, by kernel_rfl⟩
 ·have : A < 0 := jC h
  omega
theorem ExtW.glob {ρ ρ' : Rho} {H' : Heap} (h : ExtW ρ gH ρ' H') : Glob gH H' := ⟨h.len, fun A hA => h.old A hA, c3T⟩
def p10 : List Int := [1, 10, 100, 1000, 10000, 100000, 1000000, 10000000, 100000000, 1000000000, 10000000000, 100000000000, 1000000000000, 10000000000000, 100000000000000, 1000000000000000, 10000000000000000, 100000000000000000, 1000000000000000000, 10000000000000000000]
theorem g64 : Tryz.prog.globalNamed "math/bits.deBruijn64tab" = some 0 := by kernel_rfl
theorem yR : Tryz.prog.globalNamed "internal/strconv.uint64pow10" = some 4 := by kernel_rfl
theorem g32 : Tryz.prog.globalNamed "math/bits.deBruijn32tab" = some 5 := by kernel_rfl
theorem b6J {w : World} (h64 : Lib.TabIs Tryz.prog w "math/bits.deBruijn64tab" .u8 (t64.map Int.ofNat)) (h10 : Lib.TabIs Tryz.prog w "internal/strconv.uint64pow10" .u64 p10)
 (h32 : Lib.TabIs Tryz.prog w "math/bits.deBruijn32tab" .u8 (t32.map Int.ofNat)) (h1001 : ∃ cs t fr, w.heap[1]? = some (.cells cs t fr)) (h1002 : ∃ cs t fr, w.heap[2]? = some (.cells cs t fr)) (h1003 : ∃ cs t fr, w.heap[3]? = some (.cells cs t fr)) : ∃ ρ, InW Tryz.prog ρ gH w := by
 have a0 := (InW.none (P := Tryz.prog) w).cN g64 h64 (ty := 5) rfl (by kernel_rfl)
 obtain ⟨cs1, t1, fr1, hb1⟩ := h1001
 have a1 := (a0.row ⟨1, 0, cs1.size, 1⟩ hb1 (ty := 3) (by kernel_rfl) rfl [] 1 (fun _ => ⟨rfl, rfl⟩) (by simp) (fun i c hi => by simp at hi)).1
 obtain ⟨cs2, t2, fr2, hb2⟩ := h1002
 have a2 := (a1.row ⟨2, 0, cs2.size, 1⟩ hb2 (ty := 310) (by kernel_rfl) rfl [] 1 (fun _ => ⟨rfl, rfl⟩) (by simp) (fun i c hi => by simp at hi)).1
 obtain ⟨cs3, t3, fr3, hb3⟩ := h1003
 have a3 := (a2.row ⟨3, 0, cs3.size, 1⟩ hb3 (ty := 310) (by kernel_rfl) rfl [] 1 (fun _ => ⟨rfl, rfl⟩) (by simp) (fun i c hi => by simp at hi)).1
 have a4 := a3.cN yR h10 (ty := 28) rfl (by kernel_rfl)
 have a5 := a4.cN g32 h32 (ty := 5) rfl (by kernel_rfl)
 exact ⟨_, a5⟩
end Go.Ds
namespace Go.Ds
noncomputable section
variable {P : Program} {H0 : Base} {H : Heap} {os : List Ob} {κ β : Type} [DecidableEq κ] {enc : κ → Value} {f : β → Value} {t : TypeId} {z : Value}
structure MapK (P : Program) (t : TypeId) {κ : Type} [DecidableEq κ] (enc : κ → Value) (z : Value) : Prop where
 ex : ∃ kt et, wN P t = some (kt, et) ∧ iU P et = some z ∧ jA z = true ∧ (∀ b k, xL P b kt (enc k) = true) ∧
  (∀ k (es : List MapEntry) (ks : List κ), es.map (·.key) = ks.map enc → rE P kt (enc k) es = some (ks.findIdx? fun x => decide (x = k))) ∧ ∀ k, Instr.sameBits 10000 (enc k) (enc k) = true
def kcs (enc : κ → Value) (f : β → Value) (kvs : List (κ × β)) : List Value := kvs.flatMap fun p => [enc p.1, f p.2]
def pJ (kvs : List (κ × β)) (k : κ) : Option β := (kvs.find? fun p => decide (p.1 = k)).map (·.2)
def zB (kvs : List (κ × β)) (k : κ) (v : β) : List (κ × β) := match kvs.findIdx? (fun p => decide (p.1 = k)) with
 | some j => kvs.set j (k, v)
 | none => kvs ++ [(k, v)]
theorem a0O : ∀ (es : List MapEntry) (kvs : List (κ × β)), kcs enc f kvs = mcs es → es.map (·.key) = kvs.map (fun p => enc p.1) ∧ es.map (·.val) = kvs.map (fun p => f p.2)
 | [], [], _ => ⟨rfl, rfl⟩
 | [], p :: kvs, h => by simp [kcs, mcs] at h
 | e :: es, [], h => by simp [kcs, mcs] at h
 | e :: es, p :: kvs, h => by
   simp only [kcs, mcs, dJ, List.cons_append, fP, fO] at h
   obtain ⟨h1, h2, h3⟩ := h
   obtain ⟨h4, h5⟩ := a0O es kvs h3
   simp only [dY]
   exact ⟨by rw [h4, h1], by rw [h5, h2]⟩
theorem zE : ∀ (es : List MapEntry) (kvs : List (κ × β)), es.map (·.key) = kvs.map (fun p => enc p.1) → es.map (·.val) = kvs.map (fun p => f p.2) → kcs enc f kvs = mcs es
 | [], [], _, _ => rfl
 | [], p :: kvs, h, _ => by simp at h
 | e :: es, [], h, _ => by simp at h
 | e :: es, p :: kvs, h, h' => by
   simp only [dY, fO] at h h'
   have := zE es kvs h.2 h'.2
   simp only [kcs, mcs, dJ] at this ⊢
   rw [this, h.1, h'.1]
theorem St.bO (hS : St P H0 H os) (i : Nat) {A : Nat} {cs : List Value} (ho : os[i]? = some ⟨.map (some A), 0, cs⟩) : ∃ es ck ver, iL H A = some (.map es ck ver) ∧ cs = mcs es ∧ Stamps es ck := by
 have := hS.own _ (dO ho)
 unfold OwnAt at this
 rw [if_pos rfl] at this
 rcases this with ⟨_, _, _, _, _, _, h⟩ | ⟨A', es, ck, ver, h1, h2, h3, h4⟩
 ·cases h
 ·simp only [Value.map.injEq, dA] at h3
  subst h3
  exact ⟨es, ck, ver, h1, h2, h4⟩
theorem a4p (kvs : List (κ × β)) (k : κ) : (∃ j x, (kvs.map (·.1)).findIdx? (fun x => decide (x = k)) = some j ∧ kvs[j]? = some x ∧ kvs.find? (fun p => decide (p.1 = k)) = some x) ∨ ((kvs.map (·.1)).findIdx? (fun x => decide (x = k)) = none ∧ kvs.find? (fun p => decide (p.1 = k)) = none) := by
 induction kvs with
 | nil => exact .inr ⟨rfl, rfl⟩
 | cons p kvs ih =>
   by_cases h : p.1 = k
   ·exact .inl ⟨0, p, by simp [eT, h], rfl, by simp [h]⟩
   ·rcases ih with ⟨j, x, h1, h2, h3⟩ | ⟨h1, h2⟩
    ·exact .inl ⟨j + 1, x, by simp [eT, h, h1], by simpa using h2, by simp [h, h3]⟩
    ·exact .inr ⟨by simp [eT, h, h1], by simp [h, h2]⟩
theorem St.cU (hS : St P H0 H os) (i : Nat) {A : Nat} {kvs : List (κ × β)} (ho : os[i]? = some ⟨.map (some A), 0, kcs enc f kvs⟩) (hk : MapK P t enc z) (hf : ∀ b, mE (f b) = true) (c : Bool) (k : κ) :
 pB P H t (.map (some A)) (enc k) c = some (pairV c (((pJ kvs k).map f).getD z) (pJ kvs k).isSome) := by
 obtain ⟨kt, et, h1, h2, h3, h4, h5, h6⟩ := hk.ex
 obtain ⟨es, ck, ver, h7, h8, _⟩ := hS.bO i ho
 obtain ⟨h9, h10⟩ := a0O es kvs h8
 have hi := h5 k es (kvs.map (·.1)) (by rw [h9]; simp [gq])
 simp only [pB, h1, cY, a1u, h7, h4, if_true, hi, pJ]
 rcases a4p kvs k with ⟨j, x, e1, e2, e3⟩ | ⟨e1, e3⟩
 ·have hj : es[j]?.map (·.val) = some (f x.2) := by
   rw [← ec, h10, ec, e2]; rfl
  cases he : es[j]? with
  | none => rw [he] at hj; simp at hj
  | some e =>
    rw [he] at hj
    simp only [dN, dA] at hj
    simp only [e1, he, cY, hj, hf, if_true, e3, dN, eN, Option.isSome_some]
 ·simp only [e1, e3, Option.map_none, Option.getD_none, Option.isSome_none, h2, cY, h3, if_true]
def a0z (P : Program) (H : Heap) (t : TypeId) (x k : Value) (c : Bool) (K : Value → Prop) (_k : Keep K := ⟨⟩) : Prop := ∃ v, pB P H t x k c = some v ∧ K v
theorem a6L {t : TypeId} {x x' k k' : Value} {c : Bool} {K : Value → Prop} (h : x = x') (h2 : k = k') : a0z P H t x k c K = a0z P H t x' k' c K := by rw [h, h2]
attribute [congr] a6L
theorem a9A (d ty pos af g) (t : TypeId) (x k : Operand) (c : Bool) (l : List Value) (K : Value → Heap → Prop) :
 lR P ⟨d, .lookup t x k c, ty, pos, af, g⟩ l H K = jJ x l fun x => jJ k l fun k => a0z P H t x k c fun v => K v H := by
 have h2 : jU ((pB P H t (ev l x) (ev l k) c).map fun v => (v, H)) K = ∃ v, pB P H t (ev l x) (ev l k) c = some v ∧ K v H := by
  cases pB P H t (ev l x) (ev l k) c <;> simp [jU]
 simp only [lR, opD, jJ, Op.operands, a0z, h2]
 simp [and_assoc]
theorem St.bq (hS : St P H0 H os) (i : Nat) {A : Nat} {kvs : List (κ × β)} (ho : os[i]? = some ⟨.map (some A), 0, kcs enc f kvs⟩) (hk : MapK P t enc z) (hf : ∀ b, mE (f b) = true) {c : Bool} {k : κ} {K : Value → Prop}
 (h : K (pairV c (((pJ kvs k).map f).getD z) (pJ kvs k).isSome)) : a0z P H t (.map (some A)) (enc k) c K := ⟨_, hS.cU i ho hk hf c k, h⟩
def a4z (P : Program) (H : Heap) (t : TypeId) (K : Value → Heap → Prop) (_k : Keep K := ⟨⟩) : Prop := ∃ v H1, pN P H t none = some (v, H1) ∧ K v H1
theorem a7t (d ty pos af g) (t : TypeId) (l : List Value) (K : Value → Heap → Prop) : lR P ⟨d, .makeMap t none, ty, pos, af, g⟩ l H K = a4z P H t K := by
 simp only [lR, opD, Op.operands, a4z, mN]
 simp
theorem St.bP (hS : St P H0 H os) (hk : MapK P t enc z) {K : Value → Heap → Prop} (h : ∀ A H1, St P H0 H1 (os ++ [⟨.map (some A), 0, []⟩]) → K (.map (some A)) H1) : a4z P H t K := by
 obtain ⟨kt, et, h1, _⟩ := hk.ex
 refine ⟨.map (some H.length), H.cons (.map [] 0 0), by simp [pN, h1], h _ _ (hS.add ?_ ?_ ?_ ?_)⟩
 ·unfold OwnAt
  rw [if_pos rfl]
  exact .inr ⟨_, [], 0, 0, iN H _, rfl, rfl, .nil 0⟩
 ·simp [pA]
 ·exact fun B hB => jN _ hB
 ·intro B hB
  simp [kE] at hB
  omega
def b3A (P : Program) (H : Heap) (t : TypeId) (m k v : Value) (K : Heap → Prop) (_k : Keep K := ⟨⟩) : Prop := ∃ H1, a0I P H t m k v = some H1 ∧ K H1
theorem a8q {t : TypeId} {m m' k k' v v' : Value} {K : Heap → Prop} (h : m = m') (h2 : k = k') (h3 : v = v') : b3A P H t m k v K = b3A P H t m' k' v' K := by rw [h, h2, h3]
attribute [congr] a8q
theorem a2P (d ty pos af g) (t : TypeId) (m k v : Operand) (l : List Value) (K : Value → Heap → Prop) :
 lR P ⟨d, .mapUpdate t m k v, ty, pos, af, g⟩ l H K = jJ m l fun m => jJ k l fun k => jJ v l fun v => b3A P H t m k v fun H1 => K undef H1 := by
 have h2 : jU ((a0I P H t (ev l m) (ev l k) (ev l v)).map fun H => (undef, H)) K = ∃ H1, a0I P H t (ev l m) (ev l k) (ev l v) = some H1 ∧ K undef H1 := by
  cases a0I P H t (ev l m) (ev l k) (ev l v) <;> simp [jU]
 simp only [lR, opD, jJ, Op.operands, b3A, h2]
 simp [and_assoc]
theorem a0T (kvs : List (κ × β)) (k : κ) (v : β) : zB kvs k v = match (kvs.map (·.1)).findIdx? (fun x => decide (x = k)) with | some j => kvs.set j (k, v) | none => kvs ++ [(k, v)] := by
 unfold zB
 rw [List.findIdx?_map]
 rfl
theorem St.cg (hS : St P H0 H os) (i : Nat) {A : Nat} {kvs : List (κ × β)} (ho : os[i]? = some ⟨.map (some A), 0, kcs enc f kvs⟩) (hk : MapK P t enc z) {k : κ} {v : β} {K : Heap → Prop}
 (h : ∀ H1, St P H0 H1 (os.set i ⟨.map (some A), 0, kcs enc f (zB kvs k v)⟩) → K H1) : b3A P H t (.map (some A)) (enc k) (f v) K := by
 obtain ⟨kt, et, h1, h2, h3, h4, h5, h6⟩ := hk.ex
 obtain ⟨es, ck, ver, h7, h8, hst⟩ := hS.bO i ho
 obtain ⟨h9, h10⟩ := a0O es kvs h8
 have hi := h5 k es (kvs.map (·.1)) (by rw [h9]; simp [gq])
 have fin : ∀ es' ck', mcs es' = kcs enc f (zB kvs k v) → Stamps es' ck' → St P H0 (hset H A (.map es' ck' (ver + 1))) (os.set i ⟨.map (some A), 0, kcs enc f (zB kvs k v)⟩) := by
  intro es' ck' he hst'
  refine hS.put i ho ?_ ?_ ?_ ?_
  ·unfold OwnAt
   rw [if_pos rfl]
   exact .inr ⟨A, es', ck', _, iP _ (jC h7), he.symm, rfl, hst'⟩
  ·rw [iY]; exact di _
  ·intro B hB hne
   exact pF fun hh => hne (by simp [kE, hh])
  ·exact fun B hB => .inl hB
 rcases a4p kvs k with ⟨j, x, e1, e2, _⟩ | ⟨e1, _⟩
 ·have hj : es[j]?.map (·.key) = some (enc x.1) := by
   rw [← ec, h9, ec, e2]; rfl
  have hx : x.1 = k := by
   have := fN.1 e1
   obtain ⟨hlt, hd, _⟩ := this
   have hlt' : j < kvs.length := by simpa using hlt
   have : kvs[j] = x := by
    rw [du hlt'] at e2
    exact cX e2
   simp [this] at hd
   exact hd
  cases he : es[j]? with
  | none => rw [he] at hj; simp at hj
  | some e =>
    rw [he] at hj
    simp only [dN, dA] at hj
    refine ⟨hset H A (.map (es.set j { e with key := enc k, val := f v }) ck (ver + 1)), ?_, h _ (fin _ _ ?_ (hst.set he _ rfl))⟩
    ·have hsb : Instr.sameBits 10000 e.key (enc k) = true := by rw [hj, hx]; exact h6 k
     simp only [a0I, h1, cY, h7, h4, if_true, hi, e1, he, hsb]
    ·symm
     rw [a0T, e1]
     refine zE _ _ ?_ ?_
     ·rw [fE, fE, h9]
     ·rw [fE, fE, h10]
 ·refine ⟨hset H A (.map (es ++ [{ key := enc k, val := f v, born := ck }]) (ck + 1) (ver + 1)), ?_, h _ (fin _ _ ?_ (hst.push _ rfl))⟩
  ·simp only [a0I, h1, cY, h7, h4, if_true, hi, e1]
  ·symm
   rw [a0T, e1]
   refine zE _ _ ?_ ?_
   ·rw [dx, dx, h9]; rfl
   ·rw [dx, dx, h10]; rfl
def b4P (P : Program) (H : Heap) (t : TypeId) (m k : Value) (K : Value → Heap → Prop) (_k : Keep K := ⟨⟩) : Prop := ∃ v H1, qK P H t m k = some (v, H1) ∧ K v H1
theorem a8x {t : TypeId} {m m' k k' : Value} {K : Value → Heap → Prop} (h : m = m') (h2 : k = k') : b4P P H t m k K = b4P P H t m' k' K := by rw [h, h2]
attribute [congr] a8x
def a3x (H : Heap) (m b v : Value) (K : Heap → Prop) (_k : Keep K := ⟨⟩) : Prop := ∃ H1, qL H m b v = some H1 ∧ K H1
theorem a7a {m m' b b' v v' : Value} {K : Heap → Prop} (h : m = m') (h2 : b = b') (h3 : v = v') : a3x H m b v K = a3x H m' b' v' K := by rw [h, h2, h3]
attribute [congr] a7a
theorem a4E (d ty pos af g) (t : TypeId) (m k : Operand) (l : List Value) (K : Value → Heap → Prop) :
 lR P ⟨d, .mapEntry t m k, ty, pos, af, g⟩ l H K = jJ m l fun m => jJ k l fun k => b4P P H t m k K := by
 have h2 : jU (qK P H t (ev l m) (ev l k)) K = ∃ v H1, qK P H t (ev l m) (ev l k) = some (v, H1) ∧ K v H1 := mN ..
 simp only [lR, opD, jJ, Op.operands, b4P, h2]
 simp [and_assoc]
theorem a0Z (d ty pos af g) (t : TypeId) (m b v : Operand) (l : List Value) (K : Value → Heap → Prop) :
 lR P ⟨d, .entryStore t m b v, ty, pos, af, g⟩ l H K = jJ m l fun m => jJ b l fun b => jJ v l fun v => a3x H m b v fun H1 => K undef H1 := by
 have h2 : jU ((qL H (ev l m) (ev l b) (ev l v)).map fun H => (undef, H)) K = ∃ H1, qL H (ev l m) (ev l b) (ev l v) = some H1 ∧ K undef H1 := by
  cases qL H (ev l m) (ev l b) (ev l v) <;> simp [jU]
 simp only [lR, opD, jJ, Op.operands, a3x, h2]
 simp [and_assoc]
theorem wU (kvs : List (κ × β)) (k k' : κ) (v : β) : pJ (zB kvs k v) k' = if k' = k then some v else pJ kvs k' := by
 unfold pJ zB
 induction kvs with
 | nil =>
   by_cases h : k' = k
   ·simp [h]
   ·simp [h, ey h]
 | cons p kvs ih =>
   by_cases hp : p.1 = k
   ·simp only [eT, hp, decide_true, if_true, fi, List.find?_cons]
    by_cases h : k' = k
    ·simp [h]
    ·simp [h, ey h]
   ·have hd : decide (p.1 = k) = false := by simp [hp]
    simp only [eT, hd, dR, if_false]
    by_cases hq : p.1 = k'
    ·have hne : ¬ k' = k := fun e => hp (hq.trans e)
     cases hh : kvs.findIdx? (fun p => decide (p.1 = k)) with
     | none => simp [hq, hne]
     | some j => simp [hq, hne]
    ·cases hh : kvs.findIdx? (fun p => decide (p.1 = k)) with
     | none =>
       rw [hh] at ih
       simpa [hq, List.find?_cons] using ih
     | some j =>
       rw [hh] at ih
       simpa [hq, List.find?_cons] using ih
end
end Go.Ds
namespace Go.Ds
noncomputable section
variable {P : Program} {H : Heap}
theorem kJ {α : Type} (P : Program) (x : α) : iK P (pure x) = some x := rfl
theorem jP {t : TypeId} {d : TypeDesc} (h : P.underlying t = some d) : iK P (underlying t) = some d := by
 unfold underlying
 rw [iG]
 have : iK P program = some P := rfl
 rw [this, cY, h]
 rfl
def lD : Operand → Bool
 | .const _ => true
 | _ => false
def oL (c : Bool) (i : Nat) (v : Value) : Operand := if c then .const v else .tmp i
def kU (P : Program) (op : BinOp) (t t2 : TypeId) (cx cy : Bool) (x y : Value) : Option Value := (opD P ⟨none, .binOp op t (oL cx 0 x) (oL cy 1 y) t2, t, "", #[], none⟩ [x, y] .nil).map (·.1)
def lB (P : Program) (op : BinOp) (t t2 : TypeId) (cx cy : Bool) (x y : Value) (K : Value → Prop) (_k : Keep K := ⟨⟩) : Prop := match x, y with
 | .int k a, .int k' b => (match (if k = k' then mL op k a b else none) with | some v => K v | none => jQ (kU P op t t2 cx cy (.int k a) (.int k' b)) K)
 | x, y => jQ (kU P op t t2 cx cy x y) K
theorem a6w {op : BinOp} {t t2 : TypeId} {cx cy : Bool} {x x' y y' : Value} {K : Value → Prop} (h : x = x') (h2 : y = y') : lB P op t t2 cx cy x y K = lB P op t t2 cx cy x' y' K := by rw [h, h2]
attribute [congr] a6w
theorem a9c (x : Operand) (l m : List Value) : ev (ev l x :: m) (oL (lD x) 0 (ev l x)) = ev l x := by cases x <;> rfl
theorem a9d (x : Operand) (l m : List Value) (a : Value) : ev (a :: ev l x :: m) (oL (lD x) 1 (ev l x)) = ev l x := by cases x <;> rfl
theorem b4p (op : BinOp) (t : TypeId) (x y : Operand) (l : List Value) : eqGuard op t x y (ev l x) (ev l y) = eqGuard op t (oL (lD x) 0 (ev l x)) (oL (lD y) 1 (ev l y)) (ev l x) (ev l y) := by
 generalize hx : ev l x = vx
 generalize hy : ev l y = vy
 cases x <;> cases y <;> rfl
theorem b7g (d ty pos af g) (op : BinOp) (t : TypeId) (x y : Operand) (t2 : TypeId) (l : List Value) (H : Heap) :
 opD P ⟨d, .binOp op t x y t2, ty, pos, af, g⟩ l H = (kU P op t t2 (lD x) (lD y) (ev l x) (ev l y)).map fun v => (v, H) := by
 have hp : kK P ⟨d, .binOp op t x y t2, ty, pos, af, g⟩ l H = _ := mR (P := P) ⟨d, .binOp op t x y t2, ty, pos, af, g⟩ ⟨none, .binOp op t (oL (lD x) 0 (ev l x)) (oL (lD y) 1 (ev l y)) t2, t, "", #[], none⟩ l [ev l x, ev l y] H
  (by simp only [Op.operands, dY, fR, a9c, a9d]) (by
    simp only [execOp]
    rw [a9c, a9d, ← b4p])
 simp only [opD, kU, hp, a9c, a9d]
 generalize kK P _ _ _ = r
 generalize ev l x = vx
 generalize ev l y = vy
 split
 all_goals first
  | (split <;> first | rfl | (split <;> first | rfl | (cases r <;> rfl)) | (cases r <;> rfl))
  | (cases r <;> rfl)
theorem b3u (d ty pos af g) (op : BinOp) (t : TypeId) (x y : Operand) (t2 : TypeId) (l : List Value) (K : Value → Heap → Prop) :
 lR P ⟨d, .binOp op t x y t2, ty, pos, af, g⟩ l H K = jJ x l fun x' => jJ y l fun y' => lB P op t t2 (lD x) (lD y) x' y' fun v => K v H := by
 have h : jU (opD P ⟨d, .binOp op t x y t2, ty, pos, af, g⟩ l H) K = lB P op t t2 (lD x) (lD y) (ev l x) (ev l y) fun v => K v H := by
  have key : jU ((kU P op t t2 (lD x) (lD y) (ev l x) (ev l y)).map fun v => (v, H)) K = jQ (kU P op t t2 (lD x) (lD y) (ev l x) (ev l y)) fun v => K v H := by
   cases kU P op t t2 (lD x) (lD y) (ev l x) (ev l y) <;> rfl
  rw [b7g, key]
  unfold lB
  split
  ·rename_i k a k' b hx hy
   split
   ·rename_i v hv
    split at hv
    ·rename_i hk
     subst hk
     have : kU P op t t2 (lD x) (lD y) (.int k a) (.int k b) = some v := by
      have h1 : ∀ m, ev ((.int k a : Value) :: m) (oL (lD x) 0 (.int k a)) = .int k a := fun m => by cases lD x <;> rfl
      have h2 : ∀ m c, ev (c :: (.int k b : Value) :: m) (oL (lD y) 1 (.int k b)) = .int k b := fun m c => by cases lD y <;> rfl
      cases op <;> simp only [mL] at hv <;> first | (cases hv; done) | (simp only [kU, opD, h1, h2, mL, if_true, hv]; rfl)
     rw [hx, hy, this]
     rfl
    ·cases hv
   ·rw [hx, hy]
  ·rfl
 simp only [lR, h, jJ, Op.operands]
 simp [and_assoc]
theorem lT (op : BinOp) (t t2 : TypeId) (cx cy : Bool) (k : IntKind) (a b : Int) {v : Value} (K : Value → Prop) (h : mL op k a b = some v) : lB P op t t2 cx cy (.int k a) (.int k b) K = oA v K := by
 simp [lB, h, oA]
section
theorem b0Y (t t2 : TypeId) (cx cy : Bool) (k : IntKind) (a b : Int) (K : Value → Prop) : lB P .add t t2 cx cy (.int k a) (.int k b) K = oA (.int k (k.wrap (a + b))) K := lT _ _ _ _ _ _ _ _ _ (by simp [mL, a9Z, tF])
theorem b0I (t t2 : TypeId) (cx cy : Bool) (k : IntKind) (a b : Int) (K : Value → Prop) : lB P .sub t t2 cx cy (.int k a) (.int k b) K = oA (.int k (k.wrap (a - b))) K := lT _ _ _ _ _ _ _ _ _ (by simp [mL, b0u, tF])
theorem b1f (t t2 : TypeId) (cx cy : Bool) (k : IntKind) (a b : Int) (K : Value → Prop) : lB P .mul t t2 cx cy (.int k a) (.int k b) K = oA (.int k (k.wrap (a * b))) K := lT _ _ _ _ _ _ _ _ _ (by simp [mL, tF])
theorem b2J (t t2 : TypeId) (cx cy : Bool) (k : IntKind) (a b : Int) (K : Value → Prop) : lB P .eql t t2 cx cy (.int k a) (.int k b) K = oA (.bool (decide (a = b))) K := lT _ _ _ _ _ _ _ _ _ (by simp [mL, a1y]; rfl)
theorem b2v (t t2 : TypeId) (cx cy : Bool) (k : IntKind) (a b : Int) (K : Value → Prop) : lB P .neq t t2 cx cy (.int k a) (.int k b) K = oA (.bool (decide (¬ a = b))) K := lT _ _ _ _ _ _ _ _ _ (by simp [mL, a1y]; rfl)
theorem b1e (t t2 : TypeId) (cx cy : Bool) (k : IntKind) (a b : Int) (K : Value → Prop) : lB P .lss t t2 cx cy (.int k a) (.int k b) K = oA (.bool (decide (a < b))) K := lT _ _ _ _ _ _ _ _ _ (by simp [mL, a0b])
theorem b2n (t t2 : TypeId) (cx cy : Bool) (k : IntKind) (a b : Int) (K : Value → Prop) : lB P .leq t t2 cx cy (.int k a) (.int k b) K = oA (.bool (decide (a ≤ b))) K := lT _ _ _ _ _ _ _ _ _ (by simp [mL, a0b, ← Int.not_lt])
theorem b1x (t t2 : TypeId) (cx cy : Bool) (k : IntKind) (a b : Int) (K : Value → Prop) : lB P .gtr t t2 cx cy (.int k a) (.int k b) K = oA (.bool (decide (b < a))) K := lT _ _ _ _ _ _ _ _ _ (by simp [mL, a0b])
theorem b2d (t t2 : TypeId) (cx cy : Bool) (k : IntKind) (a b : Int) (K : Value → Prop) : lB P .geq t t2 cx cy (.int k a) (.int k b) K = oA (.bool (decide (b ≤ a))) K := lT _ _ _ _ _ _ _ _ _ (by simp [mL, a0b, ← Int.not_lt])
theorem b0X (t t2 : TypeId) (cx cy : Bool) (k : IntKind) (a b : Int) (K : Value → Prop) (hb : b ≠ 0) : lB P .rem t t2 cx cy (.int k a) (.int k b) K = oA (.int k (a.tmod b)) K := lT _ _ _ _ _ _ _ _ _ (by
 have : (b == 0) = false := by simp [hb]
 simp [mL, a1y, this])
theorem b0J (t t2 : TypeId) (cx cy : Bool) (k : IntKind) (a b : Int) (K : Value → Prop) (hb : b ≠ 0) : lB P .quo t t2 cx cy (.int k a) (.int k b) K = oA (.int k (k.wrap (a.tdiv b))) K := lT _ _ _ _ _ _ _ _ _ (by
 have : (b == 0) = false := by simp [hb]
 simp [mL, a1y, tF, this])
end
theorem lL {op : BinOp} {t t2 : TypeId} {cx cy : Bool} {x y v : Value} (hx : flat x = true) (hy : flat y = true) (hg : iK P (eqGuard op t (oL cx 0 x) (oL cy 1 y) x y) = some ())
 (hv : iK P (binOp op t x y) = some v) (hf : flat v = true) (hs : ∀ a n c, x ≠ .slice (some a) n c) (hp : ∀ a, x ≠ .pointer (some a)) (hi : ∀ k a b, x = .int k a → y = .int k b → mL op k a b = none) : kU P op t t2 cx cy x y = some v := by
 have h1 : ∀ m, ev (x :: m) (oL cx 0 x) = x := fun m => by cases cx <;> rfl
 have h2 : ∀ m c, ev (c :: y :: m) (oL cy 1 y) = y := fun m c => by cases cy <;> rfl
 have hpl : kK P ⟨none, .binOp op t (oL cx 0 x) (oL cy 1 y) t2, t, "", #[], none⟩ [x, y] .nil = some (v, .nil) := by
  unfold kK
  rw [if_pos (by simp [Op.operands, h1, h2, hx, hy])]
  have : execOp (ev [x, y]) ⟨none, .binOp op t (oL cx 0 x) (oL cy 1 y) t2, t, "", #[], none⟩ = (do let v ← (do eqGuard op t (oL cx 0 x) (oL cy 1 y) x y; binOp op t x y); pure (.value v)) := by
   simp only [execOp, h1, h2]
  rw [this, iG, iG, hg, cY, hv, cY, kJ]
  simp only [hf, if_true]
 simp only [kU, opD, h1, h2, hpl]
 split
 ·exact absurd rfl (hs _ _ _)
 ·exact absurd rfl (hs _ _ _)
 ·rename_i k a k' b
  split
  ·rename_i hk
   subst hk
   rw [hi _ _ _ rfl rfl]
   rfl
  ·rfl
 ·exact absurd rfl (hp _)
 ·exact absurd rfl (hp _)
 ·exact absurd rfl (hp _)
 ·exact absurd rfl (hp _)
 ·rfl
theorem qB {op : BinOp} {t : TypeId} {x y : Operand} {k k' : IntKind} {a b : Int} : iK P (eqGuard op t x y (.int k a) (.int k' b)) = some () := by
 unfold eqGuard
 split <;> rfl
section
theorem b4w (t t2 : TypeId) (cx cy : Bool) (a b : Int) {k k' : IntKind} (hb : 0 ≤ b) : kU P .shr t t2 cx cy (.int k a) (.int k' b) = some (.int k (a.fdiv (2 ^ (min b.toNat k.bits)))) :=
 lL rfl rfl qB (by simp only [binOp, Op.shift]; rw [if_neg (by omega)]; rfl) rfl (by simp) (by simp) (by intros; rfl)
theorem b5h (t t2 : TypeId) (cx cy : Bool) (a b : Int) {k k' : IntKind} (hb : 0 ≤ b) : kU P .shl t t2 cx cy (.int k a) (.int k' b) = some (.int k (k.wrap (a * 2 ^ (min b.toNat k.bits)))) :=
 lL rfl rfl qB (by simp only [binOp, Op.shift]; rw [if_neg (by omega)]; rfl) rfl (by simp) (by simp) (by intros; rfl)
theorem b5i (t t2 : TypeId) (cx cy : Bool) (a b : Int) (k : IntKind) : kU P .and t t2 cx cy (.int k a) (.int k b) = some (.int k (k.wrap (BitVec.ofInt k.bits a &&& BitVec.ofInt k.bits b).toNat)) :=
 lL rfl rfl qB (by simp only [binOp]; rw [if_neg (by simp)]; rfl) rfl (by simp) (by simp) (by intros; rfl)
theorem b6w (t t2 : TypeId) (cx cy : Bool) (a b : Int) (k : IntKind) : kU P .or t t2 cx cy (.int k a) (.int k b) = some (.int k (k.wrap (BitVec.ofInt k.bits a ||| BitVec.ofInt k.bits b).toNat)) :=
 lL rfl rfl qB (by simp only [binOp]; rw [if_neg (by simp)]; rfl) rfl (by simp) (by simp) (by intros; rfl)
theorem b5C (t t2 : TypeId) (cx cy : Bool) (a b : Int) (k : IntKind) : kU P .xor t t2 cx cy (.int k a) (.int k b) = some (.int k (k.wrap (BitVec.ofInt k.bits a ^^^ BitVec.ofInt k.bits b).toNat)) :=
 lL rfl rfl qB (by simp only [binOp]; rw [if_neg (by simp)]; rfl) rfl (by simp) (by simp) (by intros; rfl)
theorem a5K (t t2 : TypeId) (cx cy : Bool) (a b : Int) (k : IntKind) : kU P .andNot t t2 cx cy (.int k a) (.int k b) = some (.int k (k.wrap (BitVec.ofInt k.bits a &&& ~~~ BitVec.ofInt k.bits b).toNat)) :=
 lL rfl rfl qB (by simp only [binOp]; rw [if_neg (by simp)]; rfl) rfl (by simp) (by simp) (by intros; rfl)
end
section
variable (a b : ByteArray)
theorem zI {op : BinOp} {t : TypeId} {x y : Operand} : iK P (eqGuard op t x y (.string a) (.string b)) = some () := by
 unfold eqGuard
 split <;> rfl
theorem a0q (h : a.data.toList = b.data.toList) : a = b := by
 cases a; cases b
 simp only [ByteArray.mk.injEq]
 exact Array.toList_inj.1 h
theorem a0Y : (a.toList == b.toList) = decide (a = b) := by
 rw [ByteArray.toList_eq, ByteArray.toList_eq, eD, beq_iff_eq, decide_eq_true_iff]
 exact ⟨a0q a b, fun h => by rw [h]⟩
theorem a8Q (t t2 : TypeId) (cx cy : Bool) (a b : ByteArray) : kU P .eql t t2 cx cy (.string a) (.string b) = some (.bool (decide (a = b))) :=
 lL rfl rfl (zI a b) (by rw [← a0Y]; rfl) rfl (by simp) (by simp) (by intro _ _ _ h; cases h)
theorem a8O (t t2 : TypeId) (cx cy : Bool) (a b : ByteArray) : kU P .neq t t2 cx cy (.string a) (.string b) = some (.bool (decide (¬ a = b))) :=
 lL rfl rfl (zI a b) (by
  have : decide (¬ a = b) = !(a.toList == b.toList) := by rw [a0Y]; simp
  rw [this]; rfl) rfl (by simp) (by simp) (by intro _ _ _ h; cases h)
theorem a5W (t t2 : TypeId) (cx cy : Bool) (a b : ByteArray) (h : a.size + b.size < 9223372036854775808) : kU P .add t t2 cx cy (.string a) (.string b) = some (.string (a ++ b)) :=
 lL rfl rfl (zI a b) (by
  simp only [binOp, Op.stringOp]
  rw [if_neg]
  ·rfl
  ·have : IntKind.i64.max = 9223372036854775807 := by decide
   rw [this]; omega) rfl (by simp) (by simp) (by intro _ _ _ h; cases h)
end
theorem b4A {t : TypeId} (s : ByteArray) (ht : oN P t = true) : yN P H t (.string s) = some (.int .i64 s.size) := by
 unfold oN at ht
 unfold yN
 split at ht
 ·rename_i h; rw [h]; simp [vZ, goInt]
 ·cases ht
def qI (P : Program) (t : TypeId) (x i : Value) : Option Value := (opD P ⟨none, .index t (.const x) (.const i), t, "", #[], none⟩ [] .nil).map (·.1)
theorem b1K (d ty pos af g) (t : TypeId) (x i : Operand) (l : List Value) (K : Value → Heap → Prop) :
 lR P ⟨d, .index t x i, ty, pos, af, g⟩ l H K = jJ x l fun x => jJ i l fun i => jQ (qI P t x i) fun v => K v H := by
 have h : opD P ⟨d, .index t x i, ty, pos, af, g⟩ l H = (qI P t (ev l x) (ev l i)).map fun v => (v, H) := by
  have hp := mR (P := P) ⟨d, .index t x i, ty, pos, af, g⟩ ⟨none, .index t (.const (ev l x)) (.const (ev l i)), t, "", #[], none⟩ l [] H rfl rfl
  simp only [opD, qI]
  exact hp
 have h2 : jU ((qI P t (ev l x) (ev l i)).map fun v => (v, H)) K = jQ (qI P t (ev l x) (ev l i)) fun v => K v H := by cases qI P t (ev l x) (ev l i) <;> rfl
 simp only [lR, h, jJ, Op.operands, h2]
 simp [and_assoc]
def oH (s : ByteArray) (i : Nat) : Nat := (s.data.toList.getD i 0).toNat
theorem a8P {t : TypeId} (s : ByteArray) (k : IntKind) (i : Int) (ht : oN P t = true) (h0 : 0 ≤ i) (h1 : i < s.size) : qI P t (.string s) (.int k i) = some (.int .u8 (oH s i.toNat)) := by
 have hu : P.underlying t = some .string := by
  unfold oN at ht
  split at ht
  ·rename_i h; exact h
  ·cases ht
 have hr : iK P (Instr.index t (.string s) (.int k i)) = some (.int .u8 (oH s i.toNat)) := by
  unfold Instr.index
  rw [iG]
  have e1 : iK P (asIntOf (.int k i)) = some (k, i) := rfl
  rw [e1, cY]
  simp only [iG, jP hu, cY]
  rw [if_pos h0]
  have hlt : i.toNat < s.size := by omega
  have hb : s[i.toNat]? = some s[i.toNat] := by simp [getElem?_pos, hlt]
  simp only [hb]
  rw [kJ]
  congr 3
  unfold oH
  rw [dc]
  have hl : i.toNat < s.data.toList.length := by simpa using hlt
  rw [du hl]
  rfl
 have hpl : kK P ⟨none, .index t (.const (.string s)) (.const (.int k i)), t, "", #[], none⟩ [] .nil = some (.int .u8 (oH s i.toNat), .nil) := by
  unfold kK
  rw [if_pos (by rfl)]
  have : execOp (ev []) ⟨none, .index t (.const (.string s)) (.const (.int k i)), t, "", #[], none⟩ = (do let v ← Instr.index t (.string s) (.int k i); pure (.value v)) := rfl
  rw [this, iG, hr, cY, kJ]
  rfl
 simp only [qI, opD, hpl]
 rfl
def a0J (P : Program) (t : TypeId) : Option IntKind := match P.underlying t with | some (.int k) => some k | _ => none
theorem zV {t : TypeId} {k : IntKind} (h : a0J P t = some k) : P.underlying t = some (.int k) := by
 unfold a0J at h
 split at h
 ·rename_i h2; rw [h2]; injection h with h; rw [h]
 ·cases h
theorem b0T {s t : TypeId} {k k' : IntKind} (a : Int) (hs : a0J P s = some k) (ht : a0J P t = some k') : a1L P s t (.int k a) = some (.int k' (k'.wrap a)) := by
 have hr : iK P (convert s t (.int k a)) = some (.int k' (k'.wrap a)) := by
  unfold convert
  simp only [iG, jP (zV hs), jP (zV ht), cY]
  rfl
 have hpl : kK P ⟨none, .convert s t (.const (.int k a)), t, "", #[], none⟩ [] .nil = some (.int k' (k'.wrap a), .nil) := by
  unfold kK
  rw [if_pos (by rfl)]
  have : execOp (ev []) ⟨none, .convert s t (.const (.int k a)), t, "", #[], none⟩ = (do let v ← convert s t (.int k a); pure (.value v)) := rfl
  rw [this, iG, hr, cY, kJ]
  rfl
 simp only [a1L, hpl]
 rfl
def a4Z (P : Program) (d : Nat) (xs ys : Array Value) (fs : List Field) : Option Bool :=
 (iK P (forIn fs ((none, ()) : Option Bool × Unit) fun f _ =>
   if f.name ≠ "_" then do
    let a ← part f.type xs f.offset
    let b ← part f.type ys f.offset
    let c ← Op.equalIn d f.type a b
    if (!c) = true then pure (ForInStep.done (some false, ())) else pure (ForInStep.yield (none, ()))
   else pure (ForInStep.yield (none, ())))).bind fun x => iK P (match x.fst with | some r => pure r | none => pure true)
theorem a2l {d : Nat} {xs ys : Array Value} (g : Field → Bool) : ∀ (fs : List Field), (∀ f ∈ fs, f.name ≠ "_" ∧ iK P (part f.type xs f.offset >>= fun x => part f.type ys f.offset >>= fun y => Op.equalIn d f.type x y) = some (g f)) →
 a4Z P d xs ys fs = some (fs.all g)
 | [], _ => rfl
 | f :: fs, hg => by
   obtain ⟨h1, h2⟩ := hg f (ew ..)
   have ih := a2l g fs fun f' h => hg f' (eK _ h)
   unfold a4Z at ih ⊢
   rw [iG] at h2
   simp only [List.forIn_cons, h1, ne_eq, not_false_eq_true, if_true, iG]
   cases hx : iK P (part f.type xs f.offset) with
   | none => rw [hx] at h2; cases h2
   | some x =>
     rw [hx, cY, iG] at h2
     cases hy : iK P (part f.type ys f.offset) with
     | none => rw [hy] at h2; cases h2
     | some y =>
       rw [hy, cY] at h2
       simp only [cY, h2]
       cases hgf : g f with
       | false =>
         simp only [Bool.not_false, if_true, kJ, cY, fp, hgf, fI]
       | true =>
         simp only [Bool.not_true, dR, if_false, kJ, cY, fp, hgf, gK]
         exact ih
theorem b2W {d : Nat} {t : TypeId} {fs : List Field} {xs ys : Array Value} (hu : P.underlying t = some (.struct fs.toArray)) (hst : P.stoodInHeld t = false) (g : Field → Bool)
 (hg : ∀ f ∈ fs, f.name ≠ "_" ∧ iK P (part f.type xs f.offset >>= fun x => part f.type ys f.offset >>= fun y => Op.equalIn d f.type x y) = some (g f)) : iK P (Op.equalIn (d + 1) t (.agg xs) (.agg ys)) = some (fs.all g) := by
 rw [Op.equalIn, iG, jP hu, cY]
 have hp : iK P program = some P := rfl
 simp only [iG, hp, cY, hst, dR, if_false, List.forIn_toArray]
 refine Eq.trans ?_ (a2l g fs hg)
 unfold a4Z
 congr 1
 funext x
 cases x.fst <;> rfl
theorem a3q {op : BinOp} {t : TypeId} (ht : P.eqGuardType P.depth t = false) {x y : Operand} {a b : Array Value} : iK P (eqGuard op t x y (.agg a) (.agg b)) = some () := by
 have hp : iK P program = some P := rfl
 unfold eqGuard
 cases op <;> simp [iG, hp, ht, kJ]
theorem b5T {t t2 : TypeId} {cx cy : Bool} {xs ys : List Value} (b : Bool) (ht : P.eqGuardType P.depth t = false) (hx : xs.all iZ = true) (hy : ys.all iZ = true) (h : iK P (Op.equalIn (9999 + 1) t (.agg xs.toArray) (.agg ys.toArray)) = some b) :
 kU P .eql t t2 cx cy (.agg xs.toArray) (.agg ys.toArray) = some (.bool b) :=
 lL (by simp [flat, jA, kD, hx]) (by simp [flat, jA, kD, hy]) (a3q ht) (by
  have hmd : Op.maxDepth = 9999 + 1 := by decide
  simp only [binOp, iG, Op.equal]
  rw [hmd, h, cY, kJ]) rfl (by simp) (by simp) (by intro _ _ _ h; cases h)
theorem b4x {t t2 : TypeId} {cx cy : Bool} {xs ys : List Value} (b : Bool) (ht : P.eqGuardType P.depth t = false) (hx : xs.all iZ = true) (hy : ys.all iZ = true) (h : iK P (Op.equalIn (9999 + 1) t (.agg xs.toArray) (.agg ys.toArray)) = some b) :
 kU P .neq t t2 cx cy (.agg xs.toArray) (.agg ys.toArray) = some (.bool (!b)) :=
 lL (by simp [flat, jA, kD, hx]) (by simp [flat, jA, kD, hy]) (a3q ht) (by
  have hmd : Op.maxDepth = 9999 + 1 := by decide
  simp only [binOp, iG, Op.equal]
  rw [hmd, h, cY, kJ]) rfl (by simp) (by simp) (by intro _ _ _ h; cases h)
end
end Go.Ds
namespace Go.Ds
noncomputable section
variable {P : Program} {H : Heap}
theorem a1O (a b : ByteArray) : (a == b) = decide (b = a) := by
 obtain ⟨x⟩ := a
 obtain ⟨y⟩ := b
 rw [eD, decide_eq_true_iff]
 constructor
 ·intro h
  have e : x = y := by simpa using (show (x == y) = true from h)
  rw [e]
 ·intro h
  cases h
  show (x == x) = true
  simp
theorem a3W (o : Option Nat) (i : Nat) : o.map (i + 1 + ·) = (o.map (· + 1)).map (i + ·) := by
 cases o with
 | none => rfl
 | some j => simp only [dN]; congr 1; omega
theorem a0B (k : ByteArray) : ∀ (es : List MapEntry) (ks : List ByteArray) (i : Nat), es.map (·.key) = ks.map Value.string →
 (Instr.findNow .string (.string k) (es.map wD) i).map (·.map (·.1)) = some ((ks.findIdx? fun x => decide (x = k)).map (i + ·))
 | [], [], i, _ => rfl
 | [], _ :: _, _, h => by simp at h
 | _ :: _, [], _, h => by simp at h
 | e :: es, s :: ks, i, h => by
   simp only [dY, fO] at h
   have hs : Instr.sameNow .string (.string k) e.key = some (decide (s = k)) := by
    rw [h.1]
    show some (k == s) = _
    rw [a1O]
   simp only [dY, Instr.findNow, wD, hs, eT]
   by_cases hd : s = k
   ·simp [hd]
   ·simp only [hd, decide_false, dR, if_false]
    have := a0B k es ks (i + 1) h.2
    rw [a3W] at this
    exact this
theorem a9X {κ : Type} [DecidableEq κ] {enc : κ → Value} {kt : TypeId} (heq : ∀ a b, iK P (Op.equal kt (enc a) (enc b)) = some (decide (b = a))) (k : κ) : ∀ (es : List MapEntry) (ks : List κ) (i : Nat), es.map (·.key) = ks.map enc →
 (iK P (Instr.findAsking kt (enc k) (es.map wD) i)).map (·.map (·.1)) = some ((ks.findIdx? fun x => decide (x = k)).map (i + ·))
 | [], [], i, _ => rfl
 | [], _ :: _, _, h => by simp at h
 | _ :: _, [], _, h => by simp at h
 | e :: es, s :: ks, i, h => by
   simp only [dY, fO] at h
   simp only [dY, Instr.findAsking, wD, iG, eT]
   rw [h.1, heq, cY]
   by_cases hd : s = k
   ·simp [hd, kJ]
   ·simp only [hd, decide_false, dR, if_false]
    have := a9X heq k es ks (i + 1) h.2
    rw [a3W] at this
    exact this
theorem MapK.str {t kt et : TypeId} {z : Value} (hm : wN P t = some (kt, et)) (hu : P.underlying kt = some .string) (hz : iU P et = some z) (hf : jA z = true) : MapK P t Value.string z where
 ex := by
  refine ⟨kt, et, hm, hz, hf, ?_, ?_, ?_⟩
  ·intro b k
   have : iK P (Instr.checkKey b 10000 kt (.string k)) = some () := by
    show iK P (Instr.checkKey b (9999 + 1) kt (.string k)) = some ()
    unfold Instr.checkKey
    rw [iG, jP hu, cY]
    rfl
   simp only [xL, this]
   rfl
  ·intro k es ks h
   have h1 := a0B k es ks 0 h
   unfold rE Instr.findKey
   rw [iG, jP hu, cY]
   cases hn : Instr.findNow .string (.string k) (es.map wD) 0 with
   | none => rw [hn] at h1; cases h1
   | some r =>
     rw [hn] at h1
     simp only [kJ]
     simpa using h1
  ·intro k
   show (k == k) = true
   rw [a1O]
   simp
theorem MapK.struct {κ : Type} [DecidableEq κ] {enc : κ → Value} {t kt et : TypeId} {z : Value} {fs : Array Field} (hm : wN P t = some (kt, et)) (hu : P.underlying kt = some (.struct fs)) (hz : iU P et = some z) (hf : jA z = true)
 (hk : ∀ b k, xL P b kt (enc k) = true) (heq : ∀ a b, iK P (Op.equal kt (enc a) (enc b)) = some (decide (b = a))) (hsb : ∀ k, Instr.sameBits 10000 (enc k) (enc k) = true) : MapK P t enc z where
 ex := by
  refine ⟨kt, et, hm, hz, hf, hk, ?_, hsb⟩
  intro k es ks h
  have h1 := a9X heq k es ks 0 h
  unfold rE Instr.findKey
  rw [iG, jP hu, cY]
  have key : ∀ (l : List MapEntry), Instr.findNow (.struct fs) (enc k) l 0 = none ∨ l = [] := by
   intro l
   cases l with
   | nil => exact .inr rfl
   | cons e l => exact .inl rfl
  rcases key (es.map wD) with hn | hn
  ·rw [hn]
   simpa using h1
  ·rw [hn]
   have : es = [] := by simpa using hn
   subst this
   have : ks = [] := by cases ks with | nil => rfl | cons a ks => simp at h
   subst this
   rfl
end
end Go.Ds
namespace Go.Ds
noncomputable section
variable {P : Program} {H : Heap}
def a1R (o : Option (Nat × TypeId)) (P : Program) (H : Heap) (t : TypeId) (z : Value) (K : Value → Heap → Prop) (_k : Keep K := ⟨⟩) : Prop := match o with
 | none => tT (jA z) (a4U P H t z K)
 | some _ => tT (jA z) (a8u P H t z K)
theorem a4F {o o' : Option (Nat × TypeId)} {t : TypeId} {z : Value} {K : Value → Heap → Prop} (h : o = o') : a1R o P H t z K = a1R o' P H t z K := by rw [h]
attribute [congr] a4F
theorem b5V {t : TypeId} (z : Value) (K : Value → Heap → Prop) : tK P H t (some z) K = a1R (jB P t) P H t z K := by
 cases h : jB P t with
 | none => exact a5j z K h
 | some n => exact a8I z K h
theorem a6F {t : TypeId} (z : Value) (K : Value → Heap → Prop) : a1R none P H t z K = tT (jA z) (a4U P H t z K) := rfl
theorem a5Z {t : TypeId} (n : Nat × TypeId) (z : Value) (K : Value → Heap → Prop) : a1R (some n) P H t z K = tT (jA z) (a8u P H t z K) := rfl
theorem a6g {t : TypeId} {k : IntKind} (h : a0J P t = some k) : lA P t = false := by
 simp [lA, zV h]
def a3M (ks kt : Option IntKind) (P : Program) (s t : TypeId) (H : Heap) (k : IntKind) (a : Int) (K : Value → Heap → Prop) (_k : Keep K := ⟨⟩) : Prop := match ks, kt with
 | some k0, some k' => if k0 = k then K (.int k' (k'.wrap a)) H else sV P s t H (.int k a) K
 | _, _ => sV P s t H (.int k a) K
theorem a5V {ks ks' kt kt' : Option IntKind} {s t : TypeId} {k : IntKind} {a : Int} {K : Value → Heap → Prop} (h : ks = ks') (h2 : kt = kt') : a3M ks kt P s t H k a K = a3M ks' kt' P s t H k a K := by rw [h, h2]
attribute [congr] a5V
theorem b8b {s t : TypeId} (k : IntKind) (a : Int) (K : Value → Heap → Prop) : sV P s t H (.int k a) K = a3M (a0J P s) (a0J P t) P s t H k a K := by
 unfold a3M
 split
 ·rename_i k0 k' hs ht
  split
  ·rename_i hk
   subst hk
   rw [b2x k0 a K (a6g ht), b0T a hs ht]
   rfl
  ·rfl
 ·rfl
theorem b1s {s t : TypeId} (k k' : IntKind) (a : Int) (K : Value → Heap → Prop) : a3M (some k) (some k') P s t H k a K = oA (.int k' (k'.wrap a)) fun v => K v H := by simp [a3M, oA]
def c0B (b : Bool) (P : Program) (H : Heap) (t : TypeId) (v : Value) : Option Value := match b with
 | true => (match v with | .string s => some (.int .i64 s.size) | _ => yN P H t v)
 | false => yN P H t v
theorem c1B (t : TypeId) (v : Value) : a1e none P H t v = c0B (oN P t) P H t v := by
 unfold c0B
 split
 ·rename_i h
  split
  ·exact b4A _ h
  ·rfl
 ·rfl
theorem b4J (t : TypeId) (s : ByteArray) : c0B true P H t (.string s) = some (.int .i64 s.size) := rfl
def a4n (b : Bool) (P : Program) (t : TypeId) (x i : Value) : Option Value := match b, x, i with
 | true, .string s, .int k i => if 0 ≤ i ∧ i < s.size then some (.int .u8 (oH s i.toNat)) else qI P t (.string s) (.int k i)
 | _, x, i => qI P t x i
theorem b3e (t : TypeId) (x i : Value) : qI P t x i = a4n (oN P t) P t x i := by
 unfold a4n
 split
 ·rename_i h
  split
  ·rename_i h2; exact a8P _ _ _ h h2.1 h2.2
  ·rfl
 ·rfl
theorem a7B (t : TypeId) (s : ByteArray) (k : IntKind) (i : Int) (h0 : 0 ≤ i) (h1 : i < s.size) : a4n true P t (.string s) (.int k i) = some (.int .u8 (oH s i.toNat)) := by
 simp [a4n, h0, h1]
theorem OC : (∀ k n, oneCell (.int k n) = true) ∧ (∀ b, oneCell (.bool b) = true) ∧ (∀ s, oneCell (.string s) = true) ∧ (∀ a, oneCell (.pointer a) = true) ∧ (∀ a n c, oneCell (.slice a n c) = true) ∧ (∀ r, oneCell (.map r) = true) ∧ (∀ f a b, oneCell (.func f a b) = true) ∧ oneCell .nilFunc = true :=
 ⟨fun _ _ => rfl, fun _ => rfl, fun _ => rfl, fun _ => rfl, fun _ _ _ => rfl, fun _ => rfl, fun _ _ _ => rfl, rfl⟩
theorem c2k (o : Option Bool) : (o.map Value.bool).getD (.bool false) = .bool (o.getD false) := by cases o <;> rfl
theorem c2E (k : IntKind) (o : Option Int) : (o.map (Value.int k)).getD (.int k 0) = .int k (o.getD 0) := by cases o <;> rfl
theorem b6E (v : Value) (b : Bool) : pairV false v b = v := rfl
theorem b7n (v : Value) (b : Bool) : pairV true v b = .tuple #[v, .bool b] := rfl
theorem b5K (t : Tmp) : lD (.tmp t) = false := rfl
theorem a7K (v : Value) : lD (.const v) = true := rfl
theorem b4V (s : ByteArray) : flat (.string s) = true := rfl
theorem b1V (s : ByteArray) : jA (.string s) = true := rfl
theorem a9l (s : ByteArray) : iZ (.string s) = true := rfl
theorem a5S (s : ByteArray) : jG (.string s) = true := rfl
theorem b4F (k : IntKind) (n : Int) : mY (.int k n) = true := rfl
theorem b0U (b : Bool) : mY (.bool b) = true := rfl
theorem b3h (s : ByteArray) : mY (.string s) = true := rfl
theorem zO {c b : Bool} {p q : Prop} (h1 : c = true → rI (.bool true) b p q) (h2 : c = false → rI (.bool false) b p q) : rI (.bool c) b p q := by
 cases c
 ·exact h2 rfl
 ·exact h1 rfl
theorem St.pick {H0 : Base} {os os' : List Ob} (hS : St P H0 H os) (idx : List Nat) (hn : idx.Nodup) (h : idx.map (os[·]?) = os'.map some) : St P H0 H os' := by
 have hmem : ∀ o ∈ os', o ∈ os := by
  intro o ho
  have : some o ∈ idx.map (os[·]?) := by rw [h]; exact eP ho
  obtain ⟨i, _, hi⟩ := dF.1 this
  exact dO hi
 refine ⟨hS.len, hS.old, fun o ho => hS.own o (hmem o ho), fun o ho => hS.new o (hmem o ho), ?_⟩
 have hpw := dV.1 hS.sep
 rw [dV]
 intro i j hi hj hij
 have hl : idx.length = os'.length := by simpa using congrArg List.length h
 have key : ∀ i (hi : i < os'.length), ∃ hk : idx[i]'(by omega) < os.length, os[idx[i]'(by omega)] = os'[i] := by
  intro i hi
  have h1 : (idx.map (os[·]?))[i]? = (os'.map some)[i]? := by rw [h]
  rw [ec, ec, du (by omega), du hi] at h1
  simp only [dN, dA] at h1
  exact dq.1 h1
 obtain ⟨h1, e1⟩ := key i hi
 obtain ⟨h2, e2⟩ := key j hj
 have hne : idx[i]'(by omega) ≠ idx[j]'(by omega) := by
  have := dV.1 hn i j (by omega) (by omega) hij
  exact this
 rcases fC hne with hh | hh
 ·have := hpw _ _ h1 h2 hh
  rw [e1, e2] at this
  exact this
 ·have := hpw _ _ h2 h1 hh
  rw [e1, e2] at this
  intro B hb hb'
  exact this B hb' hb
theorem St.frame {H1 : Heap} {H0 : Base} {ls rest ls' : List Ob} (hS : St P H0 H (ls ++ rest)) (h1 : St P ⟨H, oP ls⟩ H1 ls') : St P H0 H1 (ls' ++ rest) := by
 have hls : St P H0 H ls := hS.sub (ff ..)
 have h2 := hls.bC h1
 have hsep := fH.1 hS.sep
 have hkeep : ∀ o ∈ rest, ∀ B, kE o.v = some B → iL H1 B = iL H B := by
  intro o ho B hB
  have hlt := (hS.own o (eF _ ho)).lt hB
  exact h1.old B hlt fun ⟨x, hx, hxb⟩ => hsep.2.2 x hx o ho B hxb hB
 refine ⟨h2.len, h2.old, ?_, ?_, ?_⟩
 ·intro o ho
  rcases dD.1 ho with ho | ho
  ·exact h2.own o ho
  ·exact (hS.own o (eF _ ho)).ab (hkeep o ho)
 ·intro o ho B hB
  rcases dD.1 ho with ho | ho
  ·exact h2.new o ho B hB
  ·exact hS.new o (eF _ ho) B hB
 ·rw [fH]
  refine ⟨h2.sep, hsep.2.1, ?_⟩
  intro x hx y hy B hb hb'
  rcases h1.new x hx B hb with hh | ⟨z, hz, hzb⟩
  ·have := (hS.own y (eF _ hy)).lt hb'
   have hh : H.length ≤ B := hh
   omega
  ·exact hsep.2.2 z hz y hy B hzb hb'
theorem b7I (t : TypeId) (k : IntKind) (n : Int) : unV P .neg t (.int k n) = some (.int k (k.wrap (0 - n))) := rfl
theorem b0W (ops : Array Oper) (d : Option Tmp) (op : Op) (ty : TypeId) (pos : String) (af : Array Edge) (j : Nat) (b : Bool) (l : List Value) (H' : Heap) (v : Value) :
 rdW P ops (some ⟨d, op, ty, pos, af, some (j, b)⟩) (some (l, H', v)) H = tB (wM ops j) l b (lR P ⟨d, op, ty, pos, af, some (j, b)⟩ l H fun v' _ => v' = v) True := by
 rw [← sG ops l d op ty pos af]
 unfold rdW
 split
 ·rename_i h1 h2
  cases h1; cases h2
  split
  ·rename_i h; simp [h]
  ·rename_i h; simp [h]
 ·rename_i h
  exact (h _ _ _ _ rfl rfl).elim
theorem b2K (t t2 : TypeId) (cx cy : Bool) (k : IntKind) (a b : Int) (K : Value → Prop) : lB P .and t t2 cx cy (.int k a) (.int k b) K = jQ (kU P .and t t2 cx cy (.int k a) (.int k b)) K := by
 have h : (if k = k then mL .and k a b else none) = none := by split <;> rfl
 unfold lB; dsimp only
 rw [h]
theorem b4i (t t2 : TypeId) (cx cy : Bool) (k : IntKind) (a b : Int) (K : Value → Prop) : lB P .or t t2 cx cy (.int k a) (.int k b) K = jQ (kU P .or t t2 cx cy (.int k a) (.int k b)) K := by
 have h : (if k = k then mL .or k a b else none) = none := by split <;> rfl
 unfold lB; dsimp only
 rw [h]
theorem b2B (t t2 : TypeId) (cx cy : Bool) (k : IntKind) (a b : Int) (K : Value → Prop) : lB P .xor t t2 cx cy (.int k a) (.int k b) K = jQ (kU P .xor t t2 cx cy (.int k a) (.int k b)) K := by
 have h : (if k = k then mL .xor k a b else none) = none := by split <;> rfl
 unfold lB; dsimp only
 rw [h]
theorem a4D (t t2 : TypeId) (cx cy : Bool) (k : IntKind) (a b : Int) (K : Value → Prop) : lB P .andNot t t2 cx cy (.int k a) (.int k b) K = jQ (kU P .andNot t t2 cx cy (.int k a) (.int k b)) K := by
 have h : (if k = k then mL .andNot k a b else none) = none := by split <;> rfl
 unfold lB; dsimp only
 rw [h]
theorem b2f (t t2 : TypeId) (cx cy : Bool) (k k' : IntKind) (a b : Int) (K : Value → Prop) : lB P .shl t t2 cx cy (.int k a) (.int k' b) K = jQ (kU P .shl t t2 cx cy (.int k a) (.int k' b)) K := by
 have h : (if k = k' then mL .shl k a b else none) = none := by split <;> rfl
 unfold lB; dsimp only
 rw [h]
theorem b2p (t t2 : TypeId) (cx cy : Bool) (k k' : IntKind) (a b : Int) (K : Value → Prop) : lB P .shr t t2 cx cy (.int k a) (.int k' b) K = jQ (kU P .shr t t2 cx cy (.int k a) (.int k' b)) K := by
 have h : (if k = k' then mL .shr k a b else none) = none := by split <;> rfl
 unfold lB; dsimp only
 rw [h]
theorem b2i (op : BinOp) (t t2 : TypeId) (cx cy : Bool) (a b : ByteArray) (K : Value → Prop) : lB P op t t2 cx cy (.string a) (.string b) K = jQ (kU P op t t2 cx cy (.string a) (.string b)) K := rfl
theorem b2w (op : BinOp) (t t2 : TypeId) (cx cy : Bool) (a b : Array Value) (K : Value → Prop) : lB P op t t2 cx cy (.agg a) (.agg b) K = jQ (kU P op t t2 cx cy (.agg a) (.agg b)) K := rfl
theorem b1G (op : BinOp) (t t2 : TypeId) (cx cy : Bool) (a b : Bool) (K : Value → Prop) : lB P op t t2 cx cy (.bool a) (.bool b) K = jQ (kU P op t t2 cx cy (.bool a) (.bool b)) K := rfl
theorem b3U (n : Int) (h1 : -9223372036854775808 ≤ n) (h2 : n < 9223372036854775808) : IntKind.wrap .i64 n = n := by
 show (if (true && decide (n % 18446744073709551616 ≥ 9223372036854775808)) = true then n % 18446744073709551616 - 18446744073709551616 else n % 18446744073709551616) = n
 simp only [gK, decide_eq_true_eq]
 omega
theorem b6L (n : Int) (h1 : -128 ≤ n) (h2 : n < 128) : IntKind.wrap .i8 n = n := by
 show (if (true && decide (n % 256 ≥ 128)) = true then n % 256 - 256 else n % 256) = n
 simp only [gK, decide_eq_true_eq]
 omega
theorem rP (n : Int) (h1 : 0 ≤ n) (h2 : n < 18446744073709551616) : IntKind.wrap .u64 n = n := by
 show (if (false && decide (n % 18446744073709551616 ≥ 9223372036854775808)) = true then n % 18446744073709551616 - 18446744073709551616 else n % 18446744073709551616) = n
 simp only [fI]
 rw [if_neg (by simp)]
 omega
theorem b4E (n : Int) (h1 : 0 ≤ n) (h2 : n < 4294967296) : IntKind.wrap .u32 n = n := by
 show (if (false && decide (n % 4294967296 ≥ 2147483648)) = true then n % 4294967296 - 4294967296 else n % 4294967296) = n
 simp only [fI]
 rw [if_neg (by simp)]
 omega
theorem b3I (n : Int) (h1 : 0 ≤ n) (h2 : n < 65536) : IntKind.wrap .u16 n = n := by
 show (if (false && decide (n % 65536 ≥ 32768)) = true then n % 65536 - 65536 else n % 65536) = n
 simp only [fI]
 rw [if_neg (by simp)]
 omega
theorem b7e (n : Int) (h1 : 0 ≤ n) (h2 : n < 256) : IntKind.wrap .u8 n = n := by
 show (if (false && decide (n % 256 ≥ 128)) = true then n % 256 - 256 else n % 256) = n
 simp only [fI]
 rw [if_neg (by simp)]
 omega
end
end Go.Ds
namespace Go.Ds
noncomputable section
variable {P : Program}
def xG (P : Program) (t : TypeId) : List Field := match P.underlying t with | some (.struct fs) => fs.toList | _ => []
def yK : Value → Value → Bool
 | .int _ a, .int _ b => a == b
 | .bool a, .bool b => a == b
 | .string a, .string b => decide (a = b)
 | _, _ => false
def okC (P : Program) (t : TypeId) (x y : Value) : Bool := match P.underlying t with
 | some (.int _) => (match x, y with | .int k _, .int k' _ => decide (k = k') | _, _ => false)
 | some .bool => (match x, y with | .bool _, .bool _ => true | _, _ => false)
 | some .string => (match x, y with | .string _, .string _ => true | _, _ => false)
 | _ => false
theorem eq1 {t : TypeId} {x y : Value} (d : Nat) (h : okC P t x y = true) : iK P (Op.equalIn (d + 1) t x y) = some (yK x y) := by
 unfold okC at h
 split at h
 ·rename_i k0 hu
  split at h
  ·rename_i k a k' b
   have hk : k = k' := by simpa using h
   subst hk
   rw [Op.equalIn, iG, jP hu, cY]
   simp only [if_true]
   rfl
  ·cases h
 ·rename_i hu
  split at h
  ·rw [Op.equalIn, iG, jP hu, cY]; rfl
  ·cases h
 ·rename_i hu
  split at h
  ·rename_i a b
   rw [Op.equalIn, iG, jP hu, cY]
   show some (a == b) = some (decide (a = b))
   rw [a1O]
   congr 1
   simp [eq_comm]
  ·cases h
 ·cases h
theorem b9q {t : TypeId} {x y v : Value} {cs : Array Value} {off : Nat} (h : okC P t x y = true) (hc : cs[off]? = some v) : iK P (part t cs off) = some v := by
 have ha : iK P (isAgg t) = some false := by
  unfold isAgg
  unfold okC at h
  split at h
  ·rename_i hu; rw [iG, jP hu, cY]; rfl
  ·rename_i hu; rw [iG, jP hu, cY]; rfl
  ·rename_i hu; rw [iG, jP hu, cY]; rfl
  ·cases h
 unfold part
 rw [iG, ha, cY]
 simp only [dR, if_false, hc]
 rfl
theorem a1q {t : TypeId} {xs ys : List Value} (d : Nat) (hu : P.underlying t = some (.struct (xG P t).toArray)) (hst : P.stoodInHeld t = false)
 (hf : ((xG P t).map fun f => (f.name != "_", f.offset)) = (List.range xs.length).map fun j => (true, j)) (hy : ys.length = xs.length)
 (hok : ((xG P t).all fun f => okC P f.type (xs.getD f.offset undef) (ys.getD f.offset undef)) = true) :
 iK P (Op.equalIn (d + 2) t (.agg xs.toArray) (.agg ys.toArray)) = some ((List.range xs.length).all fun j => yK (xs.getD j undef) (ys.getD j undef)) := by
 rw [dw] at hok
 have hmem : ∀ f ∈ xG P t, (f.name != "_") = true ∧ f.offset < xs.length := fun f hf' => by
  have : (f.name != "_", f.offset) ∈ (List.range xs.length).map fun j => (true, j) := by rw [← hf]; exact eP hf'
  obtain ⟨j, hj, he⟩ := dF.1 this
  simp only [gI] at he
  exact ⟨he.1.symm, by rw [← he.2]; exact dI.1 hj⟩
 rw [b2W hu hst (fun f => yK (xs.getD f.offset undef) (ys.getD f.offset undef)) ?_]
 ·congr 1
  have h1 : (xG P t).all (fun f => yK (xs.getD f.offset undef) (ys.getD f.offset undef)) = ((xG P t).map fun f => (f.name != "_", f.offset)).all fun p => yK (xs.getD p.2 undef) (ys.getD p.2 undef) := by
   rw [List.all_map]; rfl
  rw [h1, hf, List.all_map]
  rfl
 ·intro f hf'
  obtain ⟨h1, h2⟩ := hmem f hf'
  refine ⟨by simpa using h1, ?_⟩
  have hx : xs.toArray[f.offset]? = some (xs.getD f.offset undef) := by
   rw [fb, dc, du h2]; rfl
  have hy' : ys.toArray[f.offset]? = some (ys.getD f.offset undef) := by
   rw [fb, dc, du (by omega)]; rfl
  rw [iG, b9q (hok f hf') hx, cY, iG, b9q (hok f hf') hy', cY]
  exact eq1 d (hok f hf')
theorem tD {t t2 : TypeId} {cx cy : Bool} {xs ys : List Value} (hu : P.underlying t = some (.struct (xG P t).toArray)) (hst : P.stoodInHeld t = false) (hg : P.eqGuardType P.depth t = false)
 (hf : ((xG P t).map fun f => (f.name != "_", f.offset)) = (List.range xs.length).map fun j => (true, j)) (hy : ys.length = xs.length)
 (hok : ((xG P t).all fun f => okC P f.type (xs.getD f.offset undef) (ys.getD f.offset undef)) = true) (hx : xs.all iZ = true) (hys : ys.all iZ = true) :
 kU P .eql t t2 cx cy (.agg xs.toArray) (.agg ys.toArray) = some (.bool ((List.range xs.length).all fun j => yK (xs.getD j undef) (ys.getD j undef))) ∧
 kU P .neq t t2 cx cy (.agg xs.toArray) (.agg ys.toArray) = some (.bool (!((List.range xs.length).all fun j => yK (xs.getD j undef) (ys.getD j undef)))) :=
 ⟨b5T _ hg hx hys (a1q 9998 hu hst hf hy hok), b4x _ hg hx hys (a1q 9998 hu hst hf hy hok)⟩
theorem b3S {t : TypeId} {k : IntKind} (hu : P.underlying t = some (.struct (xG P t).toArray)) (hst : P.stoodInHeld t = false)
 (hf : ((xG P t).map fun f => (f.name != "_", f.offset)) = (List.range 2).map fun j => (true, j))
 (hok : ∀ a b c d : Int, ((xG P t).all fun f => okC P f.type ([Value.int k a, .int k b].getD f.offset undef) ([Value.int k c, .int k d].getD f.offset undef)) = true) (a b : Int × Int) :
 iK P (Op.equal t (.agg #[.int k a.1, .int k a.2]) (.agg #[.int k b.1, .int k b.2])) = some (decide (b = a)) := by
 have hmd : Op.maxDepth = 9998 + 2 := by decide
 unfold Op.equal
 rw [hmd, a1q (xs := [.int k a.1, .int k a.2]) (ys := [.int k b.1, .int k b.2]) 9998 hu hst hf rfl (hok _ _ _ _)]
 congr 1
 show ((a.1 == b.1) && ((a.2 == b.2) && true)) = _
 rw [eD]
 simp only [fq, da, beq_iff_eq, decide_eq_true_eq, Prod.ext_iff]
 constructor
 ·rintro ⟨h1, h2⟩; exact ⟨h1.symm, h2.symm⟩
 ·rintro ⟨h1, h2⟩; exact ⟨h1.symm, h2.symm⟩
theorem b3d {k : IntKind} (a : Int × Int) : Instr.sameBits 10000 (.agg #[.int k a.1, .int k a.2]) (.agg #[.int k a.1, .int k a.2]) = true := by
 show ((2 : Nat) == 2 && ([(Value.int k a.1, Value.int k a.1), (Value.int k a.2, Value.int k a.2)]).all fun (x, y) => Instr.sameBits 9999 x y) = true
 have h : ∀ n, Instr.sameBits 9999 (.int k n) (.int k n) = true := fun n => by
  show (k == k && n == n) = true
  cases k <;> simp <;> rfl
 simp [h]
section
variable {H : Heap} {α : Type} {n : Nat} {cel : α → List Value} {v : Value} {xs : List α}
theorem Sl.aL (h : Sl n cel H v xs) (o : Oper) (l : List Value) (H' : Heap) (k : IntKind) (a : Int) (K : Value → Heap → Prop) (h0 : 0 < xs.length) (h1 : 0 ≤ a) (h2 : a ≤ xs.length) :
 nM P o l H' (some n) v none (some (.int k a)) K = oA (kS v n 0 a.toNat) fun v => K v H' := by
 obtain ⟨m, rfl⟩ : ∃ m, n = m + 1 := ⟨n - 1, by have := h.pos; omega⟩
 exact h.rd.aL (iM h.hc xs) o l H' k a K h0 h1 h2
theorem Sl.aK (h : Sl n cel H v xs) (o : Oper) (l : List Value) (H' : Heap) (k : IntKind) (a : Int) (K : Value → Heap → Prop) (h0 : 0 < xs.length) (h1 : 0 ≤ a) (h2 : a ≤ xs.length) :
 nM P o l H' (some n) v (some (.int k a)) none K = oA (kS v n a.toNat (xs.length - a).toNat) fun v => K v H' := by
 obtain ⟨m, rfl⟩ : ∃ m, n = m + 1 := ⟨n - 1, by have := h.pos; omega⟩
 rw [h.rd.aK (iM h.hc xs) o l H' k a K h0 h1 h2]
 congr 2
 omega
theorem Sl.sub (h : Sl n cel H v xs) (lo k : Nat) (hk : lo + k ≤ xs.length) (h0 : 0 < xs.length) : Sl n cel H (kS v n lo k) ((xs.drop lo).take k) := by
 refine ⟨?_, h.hc, h.pos⟩
 have hne : xs.flatMap cel ≠ [] := fun e => by
  have := iM h.hc xs
  rw [e, eA] at this
  have hp := gO h0 h.pos
  omega
 have := h.rd.sub lo k (by rw [iM h.hc, ← eS]; exact dL _ hk) hne
 rw [sD h.hc, a1b h.hc] at this
 exact this
theorem Sl.cB (h : Sl n cel H v xs) (k : Nat) (hk : k ≤ xs.length) (h0 : 0 < xs.length) : Sl n cel H (kS v n 0 k) (xs.take k) := by
 simpa using h.sub 0 k (by omega) h0
theorem Sl.cC (h : Sl n cel H v xs) (lo : Nat) (hk : lo ≤ xs.length) (h0 : 0 < xs.length) : Sl n cel H (kS v n lo (xs.length - lo)) (xs.drop lo) := by
 have := h.sub lo (xs.length - lo) (by omega) h0
 rwa [List.take_of_length_le (by simp)] at this
end
def a8X (P : Program) (ts : Array TypeId) (ty : TypeId) (cx cy : Bool) (x y : Value) : Option Value := (kK P ⟨none, .call { callee := .builtin .max, args := #[oL cx 0 x, oL cy 1 y], argTypes := ts }, ty, "", #[], none⟩ [x, y] .nil).map (·.1)
theorem b7p (d : Option Tmp) (ty : TypeId) (pos : String) (af : Array Edge) (g : Option (Nat × Bool)) (ts : Array TypeId) (x y : Operand) (l : List Value) (H : Heap) (K : Value → Heap → Prop) :
 lR P ⟨d, .call { callee := .builtin .max, args := #[x, y], argTypes := ts }, ty, pos, af, g⟩ l H K = jJ x l fun x' => jJ y l fun y' => jQ (a8X P ts ty (lD x) (lD y) x' y') fun v => K v H := by
 have h : opD P ⟨d, .call { callee := .builtin .max, args := #[x, y], argTypes := ts }, ty, pos, af, g⟩ l H = (a8X P ts ty (lD x) (lD y) (ev l x) (ev l y)).map fun v => (v, H) :=
  mR (P := P) ⟨d, .call { callee := .builtin .max, args := #[x, y], argTypes := ts }, ty, pos, af, g⟩ ⟨none, .call { callee := .builtin .max, args := #[oL (lD x) 0 (ev l x), oL (lD y) 1 (ev l y)], argTypes := ts }, ty, "", #[], none⟩ l [ev l x, ev l y] H
   (by cases x <;> cases y <;> rfl) (by cases x <;> cases y <;> kernel_rfl)
 have h2 : jU ((a8X P ts ty (lD x) (lD y) (ev l x) (ev l y)).map fun v => (v, H)) K = jQ (a8X P ts ty (lD x) (lD y) (ev l x) (ev l y)) fun v => K v H := by cases a8X P ts ty (lD x) (lD y) (ev l x) (ev l y) <;> rfl
 simp only [lR, h, jJ, Op.operands, Call.operands, h2]
 simp [and_assoc]
theorem b3B (ts : Array TypeId) (ty : TypeId) (cx cy : Bool) (a b : Int) : a8X P ts ty cx cy (.int .i64 a) (.int .i64 b) = some (.int .i64 (max a b)) := by
 have h : a8X P ts ty cx cy (.int .i64 a) (.int .i64 b) = some (.int .i64 (if b > a then b else a)) := by cases cx <;> cases cy <;> kernel_rfl
 rw [h]
 congr 2
 split <;> omega
def a8h (P : Program) (ts : Array TypeId) (ty : TypeId) (cx cy : Bool) (x y : Value) : Option Value := (kK P ⟨none, .call { callee := .builtin .min, args := #[oL cx 0 x, oL cy 1 y], argTypes := ts }, ty, "", #[], none⟩ [x, y] .nil).map (·.1)
theorem b8s (d : Option Tmp) (ty : TypeId) (pos : String) (af : Array Edge) (g : Option (Nat × Bool)) (ts : Array TypeId) (x y : Operand) (l : List Value) (H : Heap) (K : Value → Heap → Prop) :
 lR P ⟨d, .call { callee := .builtin .min, args := #[x, y], argTypes := ts }, ty, pos, af, g⟩ l H K = jJ x l fun x' => jJ y l fun y' => jQ (a8h P ts ty (lD x) (lD y) x' y') fun v => K v H := by
 have h : opD P ⟨d, .call { callee := .builtin .min, args := #[x, y], argTypes := ts }, ty, pos, af, g⟩ l H = (a8h P ts ty (lD x) (lD y) (ev l x) (ev l y)).map fun v => (v, H) :=
  mR (P := P) ⟨d, .call { callee := .builtin .min, args := #[x, y], argTypes := ts }, ty, pos, af, g⟩ ⟨none, .call { callee := .builtin .min, args := #[oL (lD x) 0 (ev l x), oL (lD y) 1 (ev l y)], argTypes := ts }, ty, "", #[], none⟩ l [ev l x, ev l y] H
   (by cases x <;> cases y <;> rfl) (by cases x <;> cases y <;> kernel_rfl)
 have h2 : jU ((a8h P ts ty (lD x) (lD y) (ev l x) (ev l y)).map fun v => (v, H)) K = jQ (a8h P ts ty (lD x) (lD y) (ev l x) (ev l y)) fun v => K v H := by cases a8h P ts ty (lD x) (lD y) (ev l x) (ev l y) <;> rfl
 simp only [lR, h, jJ, Op.operands, Call.operands, h2]
 simp [and_assoc]
theorem b5N (ts : Array TypeId) (ty : TypeId) (cx cy : Bool) (a b : Int) : a8h P ts ty cx cy (.int .i64 a) (.int .i64 b) = some (.int .i64 (min a b)) := by
 have h : a8h P ts ty cx cy (.int .i64 a) (.int .i64 b) = some (.int .i64 (if b < a then b else a)) := by cases cx <;> cases cy <;> kernel_rfl
 rw [h]
 congr 2
 split <;> omega
section
variable {H : Heap}
def Var (H : Heap) (A n : Nat) (cs : List Value) : Prop := n = cs.length ∧ ∃ ty rw lo ver, iL H A = some (.cells cs ty rw lo ver) ∧ lo ≤ cs.length
theorem Var.ab {H' : Heap} {A n : Nat} {cs : List Value} (h : Var H A n cs) (hk : ∀ B, B < H.length → iL H' B = iL H B) : Var H' A n cs := by
 obtain ⟨h1, ty, rw, lo, ver, h2, h3⟩ := h
 exact ⟨h1, ty, rw, lo, ver, by rw [hk A (jC h2), h2], h3⟩
theorem Var.ld {A n : Nat} {cs : List Value} (h : Var H A n cs) (s : Option Nat) (off : Nat) : oJ (some false) s H (ptr A off n) = cs[off]? := by
 obtain ⟨rfl, ty, rw, lo, ver, h1, h2⟩ := h
 simp only [oJ, jD, h1]
 by_cases h : off < cs.length
 ·rw [if_pos (by simp; omega)]
  simp only [cY]
  rw [dT (by omega), dB]
  simp
 ·rw [if_neg (by simp; omega), dZ (by omega)]
  rfl
theorem Var.ae {A n : Nat} {cs : List Value} (h : Var H A n cs) (m off : Nat) : oJ (some true) (some m) H (ptr A off n) = if off + m ≤ cs.length then some (.agg ((cs.drop off).take m).toArray) else none := by
 obtain ⟨rfl, ty, rw, lo, ver, h1, h2⟩ := h
 simp only [oJ, jD, h1, cY]
 by_cases h : off + m ≤ cs.length
 ·rw [if_pos (by simp; omega), if_pos h]
  rfl
 ·rw [if_neg (by simp; omega), if_neg h]
  rfl
theorem St.var {P : Program} {H0 : Base} {os : List Ob} (hS : St P H0 H os) (i : Nat) {A n : Nat} {cs : List Value} (ho : os[i]? = some ⟨ptr A 0 n, 0, cs⟩) : Var H A n cs := by
 obtain ⟨h1, ty, lo, ver, h2, h3⟩ := hS.cell i ho
 exact ⟨h1, ty, true, lo, ver, h2, h3⟩
theorem St.va {H0 : Heap} {os : List Ob} (hS : St P H0 H os) {A n : Nat} {cs : List Value} (h : Var H0 A n cs) : Var H A n cs := h.ab hS.ab
end
theorem rZ {P : Program} (t t2 : TypeId) (cx cy : Bool) (u x : UInt8) : kU P .add t t2 cx cy (.string ⟨#[u]⟩) (.string ⟨#[x]⟩) = some (.string ⟨#[u, x]⟩) := by
 rw [a5W _ _ _ _ _ _ (by show 1 + 1 < 9223372036854775808; decide)]
 rfl
theorem uT {P : Program} {H : Heap} {s t : TypeId} {v : Value} {n : Int} (h : RdAt H v 1 [.int .u8 n]) (hs : lA P s = true) (ht : oN P t = true) (hbt : lA P t = false) (h0 : 0 ≤ n) (h1 : n < 256) (K : Value → Heap → Prop) :
 sV P s t H v K = K (.string ⟨#[UInt8.ofNat n.toNat]⟩) H := by
 obtain ⟨m, rfl⟩ : ∃ m : Nat, n = Int.ofNat m := ⟨n.toNat, by simp [eY h0]⟩
 have hm : m < 256 := by have : (m : Int) < 256 := h1; omega
 rcases h with ⟨_, h⟩ | ⟨A, i, e, row, ty, rw, lo, ver, k, g1, g2, g3, g4, g5, g6, rfl⟩
 ·cases h
 have hk : k = 1 := by simp at g6; omega
 subst hk
 have hc : jD H A i e 1 = some [.int .u8 (Int.ofNat m)] := by
  simp only [jD, g1]
  rw [if_pos (by simp at g4 ⊢; omega)]
  exact congrArg some g5
 have hb : nA [.int .u8 (Int.ofNat m)] = some ⟨#[UInt8.ofNat m]⟩ := by simp [nA, a2u, a0S, hm]
 have hd : opD P ⟨none, .convert s t (.const (.slice (some ⟨A, i, some e⟩) 1 1)), t, "", #[], none⟩ [] H = some (.string ⟨#[UInt8.ofNat m]⟩, H) := by
  have hf : flat (.slice (some ⟨A, i, some e⟩) 1 1) = false := rfl
  simp only [opD, ev, hf, hs, ht, hc, hb, fI, dR, if_false, Bool.and_self, if_true, cY, dN]
 unfold sV
 rw [hd]
 apply propext
 constructor
 ·rintro ⟨v, H1, h2, h3⟩
  injection (cX h2) with e1 e2
  subst e1 e2
  exact h3
 ·intro h3
  exact ⟨_, _, rfl, h3⟩
theorem b6Q {P : Program} {t : TypeId} {n : Nat} {elem : TypeId} {size : Nat} (ha : P.underlying t = some (.array n elem)) (hs : iC P elem = some size) (A i e : Nat) (k : IntKind) (j : Int) (h0 : 0 ≤ j) (h1 : j < n) :
 a1A (iW P t) P t (ptr A i e) (.int k j) = some (ptr A (i + j.toNat * size) e) := by
 have hn : iW P t = none := by simp [iW, iF, ha]
 rw [hn]
 simp only [a1A, a2K, ha, ptr, hs, cY]
 rw [if_pos (by simp [h0, h1])]
end
end Go.Ds
namespace Go.Ds
section
variable {P : Program}
def c0I (inv : List Nat) (e : Edge) : Edge := { e with on := inv.getD e.on 0 }
def yH (inv : List Nat) (o : Oper) : Oper := { o with after := o.after.map (c0I inv), guard := o.guard.map fun g => (inv.getD g.1 0, g.2) }
def jY (π inv : List Nat) (ops : Array Oper) : Array Oper := (π.map fun i => yH inv (ops.getD i default)).toArray
def a8b (π inv : List Nat) (ops : Array Oper) : Bool :=
 decide (π.length = ops.size) && decide (inv.length = ops.size) && (List.range ops.size).all (fun i => decide (π.getD i 0 < ops.size) && decide (inv.getD i 0 < ops.size) && decide (inv.getD (π.getD i 0) 0 = i) && decide (π.getD (inv.getD i 0) 0 = i)) &&
 ops.toList.all fun o => o.after.toList.all (fun e => decide (e.on < ops.size)) && (match o.guard with | some g => decide (g.1 < ops.size) | none => true)
structure Perm (π inv : List Nat) (ops : Array Oper) : Prop where
 len : π.length = ops.size
 pi : ∀ i, i < ops.size → π.getD i 0 < ops.size
 iv : ∀ i, i < ops.size → inv.getD i 0 < ops.size
 ip : ∀ i, i < ops.size → inv.getD (π.getD i 0) 0 = i
 pv : ∀ i, i < ops.size → π.getD (inv.getD i 0) 0 = i
 edge : ∀ (i : Nat) (o : Oper), ops[i]? = some o → ∀ e ∈ o.after, e.on < ops.size
 guard : ∀ (i : Nat) (o : Oper) (g : Nat × Bool), ops[i]? = some o → o.guard = some g → g.1 < ops.size
theorem b6G {π inv : List Nat} {ops : Array Oper} (h : a8b π inv ops = true) : Perm π inv ops := by
 unfold a8b at h
 simp only [da, decide_eq_true_eq, dw, dI] at h
 obtain ⟨⟨⟨h1, h2⟩, h3⟩, h4⟩ := h
 refine ⟨h1, fun i hi => (h3 i hi).1.1.1, fun i hi => (h3 i hi).1.1.2, fun i hi => (h3 i hi).1.2, fun i hi => (h3 i hi).2, fun i o ho e he => ?_, fun i o g ho hg => ?_⟩
 ·exact (h4 o (dO (i := i) (by simpa using ho))).1 e (by simpa using he)
 ·have := (h4 o (dO (i := i) (by simpa using ho))).2
  rw [hg] at this
  simpa using this
variable {π inv : List Nat} {ops : Array Oper}
theorem a5X (p : Nat) : (jY π inv ops)[p]? = (π[p]?).map fun i => yH inv (ops.getD i default) := by
 simp [jY]
theorem qP (D : Perm π inv ops) {p i : Nat} {o : Oper} (hp : p < ops.size) (hi : π.getD p 0 = i) (ho : ops[i]? = some o) : (jY π inv ops)[p]? = some (yH inv o) := by
 rw [a5X]
 have h1 : π[p]? = some i := by
  rw [dc] at hi
  rw [du (by rw [D.len]; exact hp)] at hi ⊢
  simpa using hi
 rw [h1]
 simp only [dN]
 rw [dW, ho]
 rfl
theorem pW (D : Perm π inv ops) : (jY π inv ops).size = ops.size := by simp [jY, D.len]
theorem a4g (D : Perm π inv ops) (tmps : Array Value) {j : Nat} (hj : j < ops.size) : yielded (jY π inv ops) tmps (inv.getD j 0) = yielded ops tmps j := by
 have ho : ops[j]? = some ops[j] := dh.2 ⟨hj, rfl⟩
 unfold yielded
 rw [qP D (D.iv j hj) (D.pv j hj) ho, ho]
 rfl
theorem a6r (D : Perm π inv ops) (tmps : Array Value) {i : Nat} {o : Oper} (ho : ops[i]? = some o) : Region.wanted (yH inv o) (yielded (jY π inv ops) tmps) = Region.wanted o (yielded ops tmps) := by
 unfold Region.wanted
 have e : (yH inv o).guard = o.guard.map fun g => (inv.getD g.1 0, g.2) := rfl
 rw [e]
 cases hg : o.guard with
 | none => rfl
 | some g =>
   simp only [dN]
   rw [a4g D tmps (D.guard i o g ho hg)]
theorem b8B (ro : Option Nat) (ρ : Operand → Value) (o : Oper) : (yH inv o).semAt ro ρ = o.semAt ro ρ := by
 obtain ⟨dst, op, type, pos, after, guard⟩ := o
 rfl
theorem b1o (w : World) (ρ : Operand → Value) (o : Oper) : (yH inv o).about P w ρ = o.about P w ρ := by
 obtain ⟨dst, op, type, pos, after, guard⟩ := o
 rfl
theorem b3X (F : Fence) (n : Nat) (o : Oper) (a : Act) (next : Act → World → Prop) (Q : Exit → Act → World → Prop) (r : Result Next) : (yH inv o).uponIn F n P a next Q r = o.uponIn F n P a next Q r := by
 obtain ⟨dst, op, type, pos, after, guard⟩ := o
 cases r with
 | ok x w => cases x <;> rfl
 | halt x w => cases x <;> rfl
theorem b2H (D : Perm π inv ops) (F : Fence) (n : Nat) (Q : Exit → Act → World → Prop) {i : Nat} (hi : i < ops.size) (K : Act → World → Prop) (a : Act) (w : World) :
 wpOpIn F n P (jY π inv ops) Q (inv.getD i 0) K a w = wpOpIn F n P ops Q i K a w := by
 have ho : ops[i]? = some ops[i] := dh.2 ⟨hi, rfl⟩
 unfold wpOpIn
 rw [qP D (D.iv i hi) (D.pv i hi) ho, ho]
 simp only [a6r D a.tmps ho, Oper.wpIn, b1o, b3X, b8B]
 rfl
def b9S (inv : List Nat) (n : Nat) (listed listed' : Array Bool) : Prop := listed.size = n ∧ listed'.size = n ∧ ∀ i, i < n → listed.getD i false = listed'.getD (inv.getD i 0) false
theorem vX (D : Perm π inv ops) {listed listed' : Array Bool} (hc : b9S inv ops.size listed listed') {i : Nat} (hi : i < ops.size) :
 i ∈ Region.ready .any ops listed ↔ inv.getD i 0 ∈ Region.ready .any (jY π inv ops) listed' := by
 have ho : ops[i]? = some ops[i] := dh.2 ⟨hi, rfl⟩
 have ho' := qP D (D.iv i hi) (D.pv i hi) ho
 have hsz := pW D
 obtain ⟨c1, c2, c3⟩ := hc
 constructor
 ·intro h
  obtain ⟨o, h1, h2, h3⟩ := oT c1 h
  rw [ho] at h1
  obtain rfl := cX h1
  refine yM (by rw [hsz]; exact c2) ho' (by rw [← c3 i hi]; exact h2) ?_
  intro e he hb
  have he' : e ∈ (ops[i]).after.map (c0I inv) := he
  obtain ⟨e0, he0, rfl⟩ := Array.mem_map.1 he'
  have := h3 e0 he0 hb
  show listed'.getD (inv.getD e0.on 0) false = true
  rw [← c3 _ (D.edge i _ ho e0 he0)]
  exact this
 ·intro h
  obtain ⟨o, h1, h2, h3⟩ := oT (by rw [hsz]; exact c2) h
  rw [ho'] at h1
  obtain rfl := cX h1
  refine yM c1 ho (by rw [c3 i hi]; exact h2) ?_
  intro e he hb
  have := h3 (c0I inv e) (Array.mem_map.2 ⟨e, he, rfl⟩) hb
  rw [c3 _ (D.edge i _ ho e he)]
  exact this
theorem b4f (D : Perm π inv ops) (F : Fence) (k : Nat) {Q : Exit → Act → World → Prop} : ∀ (fuel : Nat) (listed listed' : Array Bool) (a : Act) (w : World), b9S inv ops.size listed listed' →
 wpAnyIn F k P .any (jY π inv ops) Q fuel listed' a w → wpAnyIn F k P .any ops Q fuel listed a w := by
 have hsz := pW D
 have nil1 : ∀ {listed listed' : Array Bool}, b9S inv ops.size listed listed' → (Region.ready .any ops listed = [] ↔ Region.ready .any (jY π inv ops) listed' = []) := by
  intro listed listed' hc
  constructor
  ·intro h
   cases hr : Region.ready .any (jY π inv ops) listed' with
   | nil => rfl
   | cons p r =>
     exfalso
     have hp : p ∈ Region.ready .any (jY π inv ops) listed' := by rw [hr]; exact ew ..
     obtain ⟨o, h1, _, _⟩ := oT (by rw [hsz]; exact hc.2.1) hp
     have hpn : p < ops.size := by rw [← hsz]; exact (dh.1 h1).1
     have := (vX D hc (D.pi p hpn)).2 (by rw [D.ip p hpn]; exact hp)
     rw [h] at this
     cases this
  ·intro h
   cases hr : Region.ready .any ops listed with
   | nil => rfl
   | cons i r =>
     exfalso
     have hi : i ∈ Region.ready .any ops listed := by rw [hr]; exact ew ..
     obtain ⟨o, h1, _, _⟩ := oT hc.1 hi
     have := (vX D hc (dh.1 h1).1).1 hi
     rw [h] at this
     cases this
 intro fuel
 induction fuel with
 | zero =>
   intro listed listed' a w hc h
   exact ⟨(nil1 hc).2 h.1, h.2⟩
 | succ fuel ih =>
   intro listed listed' a w hc h
   refine ⟨fun hn => h.1 ((nil1 hc).1 hn), fun i hi => ?_⟩
   obtain ⟨o, h1, _, _⟩ := oT hc.1 hi
   have hin := (dh.1 h1).1
   have h2 := h.2 _ ((vX D hc hin).1 hi)
   rw [b2H D F k Q hin] at h2
   refine wpOpIn_mono (fun a' w' h3 => ih _ _ a' w' ⟨by simpa using hc.1, by simpa using hc.2.1, fun j hj => ?_⟩ h3) h2
   have e1 := sA (listed := listed) (i := i) (by rw [hc.1]; exact hin) j
   have e2 := sA (listed := listed') (i := inv.getD i 0) (by rw [hc.2.1]; exact D.iv i hin) (inv.getD j 0)
   have e3 : (inv.getD j 0 = inv.getD i 0) ↔ j = i := ⟨fun h => by rw [← D.pv j hj, h, D.pv i hin], fun h => by rw [h]⟩
   rw [eD, e1, e2, e3, hc.2.2 j hj]
end
section
variable {P : Program} {H : Heap} {π inv : List Nat} {ops : Array Oper}
theorem Sim.cD (kC : P.follows .mixedOrders = true) {id : Nat} (Dp : Perm π inv ops) {fl : Fl} (D : Draw P fl (jY π inv ops)) {T : Nat → List Value × Heap} {val : Nat → Value} (X : Text P (jY π inv ops) T val)
 (hread : ∀ i m o, (i, m) ∈ mH fl (jY π inv ops) → (jY π inv ops)[i]? = some o → Region.wanted o (iT (jY π inv ops) (T i).1) = true → ∃ H2, opD P o (T i).1 (T m).2 = some (val i, H2)) :
 Sim P (.region id ops true) (T 0).1 (T 0).2 .normal (T ops.size).1 (T ops.size).2 := by
 intro ro k B ρ w a hr hE hl hM hB
 have hsz := pW Dp
 have := a3u D X hread ro k B hr hE hM
 rw [hsz] at this
 exact wpIn_region_any kC (b4f Dp (fe ro) k ops.size _ _ a _ ⟨by simp, by simp, fun i hi => by
  have := Dp.iv i hi
  simp only [dW, Array.getElem?_replicate, hi, this, if_true]⟩ this)
theorem a2O (D : Perm π inv ops) (l : List Value) {j : Nat} (hj : j < ops.size) : iT (jY π inv ops) l (inv.getD j 0) = iT ops l j := by
 have ho : ops[j]? = some ops[j] := dh.2 ⟨hj, rfl⟩
 unfold iT
 rw [qP D (D.iv j hj) (D.pv j hj) ho, ho]
 rfl
theorem wQ (D : Perm π inv ops) (l : List Value) {i : Nat} {o : Oper} (ho : ops[i]? = some o) : Region.wanted (yH inv o) (iT (jY π inv ops) l) = Region.wanted o (iT ops l) := by
 unfold Region.wanted
 have e : (yH inv o).guard = o.guard.map fun g => (inv.getD g.1 0, g.2) := rfl
 rw [e]
 cases hg : o.guard with
 | none => rfl
 | some g =>
   simp only [dN]
   rw [a2O D l (D.guard i o g ho hg)]
theorem b0h (o : Oper) (l : List Value) (K : Value → Heap → Prop) : lR P (yH inv o) l H K = lR P o l H K := by
 obtain ⟨dst, op, type, pos, after, guard⟩ := o
 rfl
theorem a3C (D : Perm π inv ops) : ∀ (os : List Oper) (tr : List (List Value × Heap × Value)) (l : List Value) (H : Heap) (K : List (List Value × Heap × Value) → List Value → Heap → Prop), (∀ o ∈ os, ∃ i : Nat, ops[i]? = some o) →
 mJ P (jY π inv ops) (os.map (yH inv)) tr l H K = mJ P ops os tr l H K
 | [], _, _, _, _, _ => rfl
 | o :: os, tr, l, H, K, h => by
   obtain ⟨i, ho⟩ := h o (by simp)
   have ih := fun tr l H => a3C D os tr l H K fun o ho => h o (by simp [ho])
   rw [dY, mJ, mJ, wQ D l ho]
   have e : (yH inv o).dst = o.dst := rfl
   simp only [b0h, e, ih]
def c1u (o : Option Oper) (os : List Oper) : List Oper := match o with | some o => o :: os | none => os
def sel (os : List Oper) : List Nat → List Oper
 | [] => []
 | i :: π => c1u os[i]? (sel os π)
theorem b7D (os : List Oper) : sel os [] = [] := rfl
theorem a6V (os : List Oper) (i : Nat) (π : List Nat) : sel os (i :: π) = c1u os[i]? (sel os π) := rfl
theorem a3f (o : Oper) (os : List Oper) : c1u (some o) os = o :: os := rfl
theorem a9D (os : List Oper) : ∀ (π : List Nat), (∀ i ∈ π, i < os.length) → sel os π = π.map fun i => os.toArray.getD i default
 | [], _ => rfl
 | i :: π, h => by
   have hi := h i (by simp)
   rw [a6V, a9D os π fun j hj => h j (by simp [hj]), du hi, a3f, dY]
   congr 1
   simp [dW, hi]
def zG (P : Program) (os : List Oper) (tr : List (List Value × Heap × Value)) (H1 : Heap) (π : List Nat) : List (Nat × Nat) → Prop
 | [] => True
 | (p, m) :: r => rdW P os.toArray (os[π.getD p 0]?) tr[p]? (trH tr[m]? H1) ∧ zG P os tr H1 π r
theorem a9q (os : List Oper) (tr) (H1 : Heap) (π : List Nat) : zG P os tr H1 π [] = True := rfl
theorem a7b (os : List Oper) (tr) (H1 : Heap) (π : List Nat) (p m : Nat) (r : List (Nat × Nat)) : zG P os tr H1 π ((p, m) :: r) = (rdW P os.toArray (os[π.getD p 0]?) tr[p]? (trH tr[m]? H1) ∧ zG P os tr H1 π r) := rfl
theorem a1f {os : List Oper} {tr} {H1 : Heap} {π : List Nat} : ∀ {tab : List (Nat × Nat)}, zG P os tr H1 π tab → ∀ x ∈ tab, rdW P os.toArray (os[π.getD x.1 0]?) tr[x.1]? (trH tr[x.2]? H1)
 | [], _, x, hx => by cases hx
 | (i, m) :: r, h, x, hx => by
   rcases ek.1 hx with rfl | hx
   ·exact h.1
   ·exact a1f h.2 x hx
theorem Wp.cE (kC : P.follows .mixedOrders = true) {id : Nat} {os : List Oper} {l : List Value} {Q : mU} (π inv : List Nat) (fl : Fl) (tab : List (Nat × Nat)) (hp : a8b π inv os.toArray = true)
 (htab : a1Q P fl (jY π inv os.toArray) = some tab) (hn : tX (jY π inv os.toArray) tab = true)
 (h : mJ P os.toArray (sel os π) [] l H fun tr l1 H1 => Q .normal l1 H1 ∧ zG P os tr H1 π tab) : Wp P (.region id os.toArray true) l H Q := by
 have Dp := b6G hp
 obtain ⟨D, htb⟩ := a2I htab
 have hsz := pW Dp
 have hmem : ∀ i ∈ π, i < os.length := fun i hi => by
  obtain ⟨p, hpl, hpe⟩ := dP.1 hi
  have := Dp.pi p (by rw [← Dp.len]; exact hpl)
  rw [dc, du hpl, eN, hpe] at this
  simpa using this
 have hsel : (sel os π).map (yH inv) = (jY π inv os.toArray).toList := by
  rw [a9D os π hmem]
  simp [jY]
 rw [← a3C Dp (sel os π) [] l H _ (fun o ho => by
  rw [a9D os π hmem, dF] at ho
  obtain ⟨i, hi, rfl⟩ := ho
  have := hmem i hi
  exact ⟨i, by simp [dW, this]⟩), hsel] at h
 obtain ⟨T, val, l', H', ext, h0, h1, h2, h3, h4, h5, h6⟩ := tY (jY π inv os.toArray).toList 0 rfl [] l H h
 have hlen : (jY π inv os.toArray).toList.length = os.toArray.size := by rw [fy, hsz]
 rw [hlen] at h1 h2 h3 h4
 have := Sim.cD kC (id := id) Dp D (T := T) (val := val) ⟨fun k hk => by rw [hsz] at hk; simpa using h4 k hk⟩ fun i m o hm ho hw => by
  rw [← htb] at hm
  have hr := a1f h6 (i, m) hm
  have hi : i < os.toArray.size := by rw [← hsz]; exact (dh.1 ho).1
  have hpi := Dp.pi i hi
  have hoo : os.toArray[π.getD i 0]? = some (os.toArray[π.getD i 0]) := dh.2 ⟨hpi, rfl⟩
  have hat := qP (inv := inv) Dp hi rfl hoo
  rw [ho] at hat
  have hat := cX hat
  have hoo' : os[π.getD i 0]? = some (os.toArray[π.getD i 0]) := by rw [← hoo]; simp
  simp only [fP] at hr
  rw [hoo', h3 i hi] at hr
  unfold rdW at hr
  rw [hat, wQ Dp _ hoo] at hw
  have hr := hr hw
  have hno : wV o = true := by
   unfold tX at hn
   have := dw.1 hn (i, m) hm
   simpa [ho] using this
  have hTm : trH ext[m]? H' = (T m).2 ∨ os.toArray.size < m := by
   unfold trH
   by_cases hm2 : m < os.toArray.size
   ·left; rw [h3 m hm2]
   ·by_cases hm3 : m = os.toArray.size
    ·left
     rw [dZ (by omega), hm3, h1]
    ·right; omega
  rcases hTm with hTm | hTm
  ·rw [hTm, ← b0h (inv := inv), ← hat] at hr
   obtain ⟨v, H2, h7, h8⟩ := b0o hno hr
   exact ⟨H2, by rw [h7, h8]⟩
  ·exfalso
   rw [htb] at hm
   have := a1U hm
   rw [hsz] at this
   omega
 rw [h0, h1] at this
 exact ⟨_, _, _, this, h5⟩
end
def RA :=
 And.intro @b6I <| And.intro @b5y <| And.intro @b7d <| And.intro @c0t <| And.intro @c1D <| And.intro @b3Z <| And.intro @b7R <| And.intro @c0P <| And.intro @b6H <| And.intro @b6B <| And.intro @b4q <| And.intro @a6K <| And.intro @b2M <| And.intro @b5g <| And.intro @b2h <| And.intro @a8t <| And.intro @a8y <| And.intro @a5x <| And.intro @b5r <| And.intro @a8V <| And.intro @b5d <| And.intro @b4u <| And.intro @b2r <| And.intro @b2j <| And.intro @b8l <| And.intro @b0S <| And.intro @a1W <| And.intro @a2H <| And.intro @a7Y <| And.intro @b5a <| And.intro @b1S <| And.intro @b7N <| And.intro @a2G <| And.intro @a2T <| And.intro @b3u <| And.intro @c1b <| And.intro @a5q <| And.intro @a5L <| And.intro @b0M <| And.intro @b4N <| And.intro @a3Z <| And.intro @a9F <| And.intro @a7X <| And.intro @a8d <| And.intro @a9A <| And.intro @a7t <| And.intro @a2P <| And.intro @a4E <| And.intro @a0Z <| And.intro @b1K <| And.intro @b7p <| And.intro @b8s <| And.intro @b2X <| And.intro @a9o <| And.intro @b2G <| And.intro @b1B <| And.intro @a7N <| And.intro @a9b <| And.intro @a6h <| And.intro @a6u <| And.intro @b5H <| And.intro @b2s <| And.intro @a2M <| And.intro @a7H <| And.intro @a7x <| And.intro @a2R <| And.intro @a6t <| And.intro @a8L <| And.intro @a6x <| @b3z
def RB :=
 And.intro @b7x <| And.intro @a7W <| And.intro @a8k <| And.intro @b2o <| And.intro @a8T <| And.intro @a6v <| And.intro @a5l <| And.intro @b5V <| And.intro @a6F <| And.intro @a5Z <| And.intro @b8b <| And.intro @b1s <| And.intro @a8z <| And.intro @b7Y <| And.intro @b7j <| And.intro @b6z <| And.intro @b7c <| And.intro @a8M <| And.intro @a6o <| And.intro @b7l <| And.intro @c1B <| And.intro @b4J <| And.intro @b3e <| And.intro @a7B <| And.intro @b8E <| And.intro @b7H <| And.intro @b6c <| And.intro @b0Y <| And.intro @b0I <| And.intro @b1f <| And.intro @b2J <| And.intro @b2v <| And.intro @b1e <| And.intro @b2n <| And.intro @b1x <| And.intro @b2d <| And.intro @b0X <| And.intro @b0J <| And.intro @b2K <| And.intro @b4i <| And.intro @b2B <| And.intro @a4D <| And.intro @b2f <| And.intro @b2p <| And.intro @b2i <| And.intro @b2w <| And.intro @b1G <| And.intro @b4w <| And.intro @b5h <| And.intro @b5i <| And.intro @b6w <| And.intro @b5C <| And.intro @a5K <| And.intro @a8Q <| And.intro @a8O <| And.intro @b6N <| And.intro @b4Y <| And.intro @a5t <| And.intro @b3p <| And.intro @b2V <| And.intro @b2F <| And.intro @a8R <| And.intro @b4V <| And.intro @b0P <| And.intro @a9B <| And.intro @b1V <| And.intro @b5G <| And.intro @a7E <| And.intro @b1z <| And.intro @b1g <| And.intro @a8g <| And.intro @b2g <| And.intro @a9e <| And.intro @b7D <| And.intro @a6V <| And.intro @a3f <| And.intro @a9q <| And.intro @a7b <| And.intro @b6j <| And.intro @b5L <| And.intro @b0W <| And.intro @b5e <| And.intro @b4t <| And.intro @b1U <| And.intro @b5U <| And.intro @b1R <| And.intro @a4a <| And.intro @a8e <| And.intro @a7c <| And.intro @a7V <| And.intro @a9l <| And.intro @b4y <| And.intro @b4F <| And.intro @b0U <| And.intro @b3h <| And.intro @a6a <| And.intro @a4e <| And.intro @a5O <| And.intro @a5I <| And.intro @a5S <| And.intro @c2k <| And.intro @c2E <| And.intro @b6E <| And.intro @b7n <| And.intro @b3B <| And.intro @b5N <| And.intro @b5K <| And.intro @a7K <| And.intro @b7I <| And.intro @b3U <| And.intro @b6L <| And.intro @rP <| And.intro @b4E <| And.intro @b3I <| @b7e
theorem RT :
 (∀ {α : Type} (l : List α), [] ++ l = l) ∧
 (∀ {α : Type} (l : List α), l ++ [] = l) ∧
 (∀ {α : Type} {a : α} {l m : List α}, a :: l ++ m = a :: (l ++ m)) ∧
 (∀ (cs : List Value) (i : Nat) (v : Value) (vs : List Value), iX cs i (v :: vs) = iX (cs.set i v) (i + 1) vs) ∧
 (∀ (cs : List Value) (i : Nat), iX cs i [] = cs) ∧
 (∀ {α : Type} {x : α} {xs : List α} {a : α}, (x :: xs).set 0 a = a :: xs) ∧
 (∀ {α : Type} {x : α} {xs : List α} {i : Nat} {a : α}, (x :: xs).set (i + 1) a = x :: xs.set i a) ∧
 (∀ (n : Nat), 0 + n = n) ∧
 (∀ (n : Nat), n * 1 = n) ∧
 (∀ (n : Nat), n + 0 = n) :=
 ⟨@List.nil_append, @List.append_nil, @List.cons_append, @lG, @pI, @List.set_cons_zero, @List.set_cons_succ, @Nat.zero_add, @Nat.mul_one, @Nat.add_zero⟩
end Go.Ds
